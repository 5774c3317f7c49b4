/-
  Parts of the proof. No condition.
-/
import Derived.Test.YtleejngibkbjnaaGreatDoorW18
import Derived.Test.YtleejngibkbjnaaGreatDoorW12
open Go.Proofs.YtleejngibkbjnaaGreatDoor.Pm.PV renaming int → O
open Go.IntKind renaming i64 → J
open List renaming take → qB, drop → qE
open Nat renaming reduceAdd → qA, reduceLeDiff → qD, strongRecOn → qF
open Go.Proofs.Tryz
set_option linter.all false
set_option maxRecDepth 100000
set_option maxHeartbeats 32000000
namespace Go.Proofs.YtleejngibkbjnaaGreatDoor
namespace Sc
open Pm Ty Go.RowKit
def vqB(q:Int):Bool:=decide (1<=q)&&decide (q<=31)
def zgi(s:St):Bool:=(win s.da 4095&&(win s.db 4095&&win s.dc 4095))&&(vqB s.q&&(vrg s.va s.vb&&vrg s.vc s.vd))
theorem zwE(q:Int)(H:za):CallOk prog 91 [O J q] H (.bool (vqB q)) H:=by refine .go func91 ntmps91 results91 ?_;(repeat'(first|refine .seq ?_|((refine .rg rfl λK hK=> ?_);simp(disch:=omega) only[go_sem])|((refine zg ?_ ?_)<;>intro h<;>(try simp only[nqb]at h)<;>simp(disch:=omega) only[go_sem,h])|(refine hK _ _ ?_)));all_goals((refine .ret ⟨_,rfl,?_⟩;refine .inl ⟨?_,rfl⟩);(simp_all[vqB,slot,Nat.beq]<;>omega))
theorem zuN(s:St)(H:za):CallOk prog 145 [.agg (stc s)] H (.bool (zgi s)) H:=by generalize hr:zgi s=r;obtain⟨q,da,db,dc,va,vb,vc,vd⟩:=s;have w1:=λx K=>zgg x 4095 K om;have v1:=λx y K=>zhN x y K;have q1:=λK=>zwE q K;refine .body (F0:=[(0,.agg [O J q,O J da,O J db,O J dc,O J va,O J vb,O J vc,O J vd])]) func145 rfl ntmps145 results145 rfl kr rfl ?_;(repeat'(first|refine .seq ?_|refine .skip ?_|refine .block ?_|refine .loop ?_|refine .round ?_|refine .exit ?_|((refine .rg rfl λK hK=> ?_);simp(disch:=omega) only[go_sem])|((refine zg ?_ ?_)<;>intro h<;>(try simp only[nqb]at h)<;>simp(disch:=omega) only[go_sem,h])|((first|refine VCx.call (w1 _ _) rfl ?_|refine VCx.call (v1 _ _ _) rfl ?_|refine VCx.call (q1 _) rfl ?_);simp(disch:=omega) only[go_sem])|(refine hK _ _ ?_;clear hK K)|(refine .cond (t:=_) rfl (λh=> ?_) (λh=> ?_)<;>(try(cases h;done))<;>(try simp only[nqb]at h))));all_goals((refine .ret ⟨_,rfl,?_⟩;refine .base (.id' ?_ (.bool _)));subst hr;clear w1 v1 q1;(simp_all[zgi,slot,Nat.beq]))
theorem zuM(s:St)(H:za):CallOk prog 266 [.agg (stc s)] H (.bool (zgi s)) H:=by generalize hr:zgi s=r;obtain⟨q,da,db,dc,va,vb,vc,vd⟩:=s;have w1:=λx K=>zg9 x K;have v1:=λx y K=>zdt x y K;refine .body (F0:=[(0,.agg [O J q,O J da,O J db,O J dc,O J va,O J vb,O J vc,O J vd])]) func266 rfl ntmps266 results266 rfl kr rfl ?_;(repeat'(first|refine .seq ?_|refine .skip ?_|refine .block ?_|refine .loop ?_|refine .round ?_|refine .exit ?_|((first|refine .rg rfl λK hK=> ?_|refine .draw mix kr λK hK=> ?_);simp(disch:=omega) only[go_sem])|((first|refine zg ?_ ?_|refine zr ?_ ?_|refine uI ?_ ?_)<;>intro h<;>(try simp only[nqb]at h)<;>simp(disch:=omega) only[go_sem,h])|((first|refine VCx.call (w1 _ _) rfl ?_|refine VCx.call (v1 _ _ _) rfl ?_|refine VCy.call (w1 _ _) rfl ?_|refine VCy.call (v1 _ _ _) rfl ?_);simp(disch:=omega) only[go_sem])|(refine hK _ _ ?_;clear hK K)|(refine .cond (t:=_) rfl (λh=> ?_) (λh=> ?_)<;>(try(cases h;done))<;>(try simp only[nqb]at h))));all_goals((refine .ret ⟨_,rfl,?_⟩;first|refine .inl ⟨?_,rfl⟩|refine .base (.id' ?_ (.bool _))|refine .base (.id' ?_ (.int _ _)));subst hr;clear w1 v1;(simp_all[zgi,vqB,slot,Nat.beq]<;>first|rfl|omega|(rw[gJ];simp;done)|(rw[gJ];simp;omega)))
def aft(s:St)(k:Int):St:=⟨s.q,if k=1 then s.da else 0,if k=1 then s.db else 0,if k=1 then s.dc else 0,if k=2 then s.va else 0,if k=2 then s.vb else 0,if k=2 then s.vc else 0,if k=2 then s.vd else 0⟩
theorem zzd(s:St)(k:Int)(H:za):CallOk prog 151 [.agg (stc s),O J k] H (.agg (stc (aft s k))) H:=by
 have hsc:=zdv (aft s k);obtain⟨q,da,db,dc,va,vb,vc,vd⟩:=s;have e0:stc (aft ⟨q,da,db,dc,va,vb,vc,vd⟩ k)=[O J q,O J (if k=1 then da else 0),O J (if k=1 then db else 0),O J (if k=1 then dc else 0),O J (if k=2 then va else 0),O J (if k=2 then vb else 0),O J (if k=2 then vc else 0),O J (if k=2 then vd else 0)]:=rfl;rw[e0]at hsc |-;clear e0;refine .body (F0:=[(0,.agg [O J q,O J da,O J db,O J dc,O J va,O J vb,O J vc,O J vd]),(1,O J k)]) func151 rfl ntmps151 results151 rfl kr rfl ?_;by_cases h1:k=1<;>by_cases h2:k=2
 .omega
 .have b1:(k !=1)=false:=by simp[h1]
  have b2:(k !=2)=true:=by simp[h2]
  simp only[gD h1,gC h2]at hsc |-;(repeat'(first|refine .seq ?_|refine .skip ?_|((refine .rg rfl λK hK=> ?_);simp(disch:=omega) only[go_sem,b1,b2])|(refine hK _ _ ?_)|(refine .cond (t:=_) rfl (λh=> ?_) (λh=> ?_)<;>(try(cases h;done))<;>(try simp only[nqb]at h))));refine .v (.agg [O J q,O J da,O J db,O J dc,O J 0,O J 0,O J 0,O J 0]) ?_;exact .base (.id (hsc _))
 .have b1:(k !=1)=true:=by simp[h1]
  have b2:(k !=2)=false:=by simp[h2]
  simp only[gC h1,gD h2]at hsc |-;(repeat'(first|refine .seq ?_|refine .skip ?_|((refine .rg rfl λK hK=> ?_);simp(disch:=omega) only[go_sem,b1,b2])|(refine hK _ _ ?_)|(refine .cond (t:=_) rfl (λh=> ?_) (λh=> ?_)<;>(try(cases h;done))<;>(try simp only[nqb]at h))));refine .v (.agg [O J q,O J 0,O J 0,O J 0,O J va,O J vb,O J vc,O J vd]) ?_;exact .base (.id (hsc _))
 .have b1:(k !=1)=true:=by simp[h1]
  have b2:(k !=2)=true:=by simp[h2]
  simp only[gC h1,gC h2]at hsc |-;(repeat'(first|refine .seq ?_|refine .skip ?_|((refine .rg rfl λK hK=> ?_);simp(disch:=omega) only[go_sem,b1,b2])|(refine hK _ _ ?_)|(refine .cond (t:=_) rfl (λh=> ?_) (λh=> ?_)<;>(try(cases h;done))<;>(try simp only[nqb]at h))));refine .v (.agg [O J q,O J 0,O J 0,O J 0,O J 0,O J 0,O J 0,O J 0]) ?_;exact .base (.id (hsc _))
theorem zyY(n:Nat)(H:za)(h:n<6):CallOk prog 213 [O J (n:Int)] H (O J ((n - 3:Nat):Int)) H:=by refine .go func213 ntmps213 results213 ?_;have h6:n=0\/n=1\/n=2\/n=3\/n=4\/n=5:=om;rcases h6 with rfl|rfl|rfl|rfl|rfl|rfl<;>(repeat'(first|refine .seq ?_|((refine .rg rfl λK hK=> ?_);simp(disch:=omega) only[go_sem])|(refine hK _ _ ?_)));all_goals((refine .ret ⟨_,rfl,?_⟩;refine .inl ⟨?_,rfl⟩);rfl)
theorem zsJ(n:Nat)(H:za)(h:n<6):CallOk prog 287 [O J (n:Int)] H (O J ((n - 3:Nat):Int)) H:=by refine .go func287 ntmps287 results287 ?_;have h6:n=0\/n=1\/n=2\/n=3\/n=4\/n=5:=om;rcases h6 with rfl|rfl|rfl|rfl|rfl|rfl<;>(repeat'(first|refine .seq ?_|refine .skip ?_|refine .block ?_|((first|refine .rg rfl λK hK=> ?_|refine .draw mix kr λK hK=> ?_);simp(disch:=omega) only[go_sem])|((first|refine zg ?_ ?_|refine zr ?_ ?_|refine uI ?_ ?_)<;>intro h<;>(try simp only[nqb]at h)<;>simp(disch:=omega) only[go_sem,h])|(refine hK _ _ ?_)|(refine .cond (t:=_) rfl (λh=> ?_) (λh=> ?_)<;>(try(cases h;done))<;>(try simp only[nqb]at h))));all_goals((refine .ret ⟨_,rfl,?_⟩;first|refine .inl ⟨?_,rfl⟩|refine .base (.id' ?_ (.bool _))|refine .base (.id' ?_ (.int _ _)));rfl)
theorem zuP(m:Mb)(i:Nat)(H:za)(hi:H[i]? =some (mB m)):CallOk prog 209 [.ptr i 0 0] H (O J (if m.fp then 2 else 1)) H:=by refine .go func209 ntmps209 results209 ?_;(repeat'(first|refine .seq ?_|refine .skip ?_|((refine .rg rfl λK hK=> ?_);simp(disch:=omega) only[go_sem,hi,mB,mbc])|(refine hK _ _ ?_)|(refine .cond (t:=_) rfl (λh=> ?_) (λh=> ?_)<;>(try(cases h;done))<;>(try simp only[nqb]at h))));all_goals((refine .ret ⟨_,rfl,?_⟩;refine .inl ⟨?_,rfl⟩);simp_all[slot,Nat.beq])
section
variable (H:za) (i j:Nat) (M:List Bool) (x0 x1 x3:Blk) (c:Cx) (m:Mb) (s:St)
end
end Sc
namespace Sc
open Pm Ty Go.RowKit
def vYm(m:Mb)(d k:Nat):Int:=if d=0 then(if k=0 then m.vb else m.vd)else(if k=0 then m.vf else m.vh)
def usd(m:Mb)(d:Nat):Bool:=if d=0 then m.ua else m.ub
def sXs(s:St)(d:Nat):Int:=if d=0 then s.va else s.vc
def sYs(s:St)(d:Nat):Int:=if d=0 then s.vb else s.vd
def zbx(s:St)(d:Nat)(x y:Int):St:=if d=0 then⟨s.q,s.da,s.db,s.dc,x,y,s.vc,s.vd⟩else⟨s.q,s.da,s.db,s.dc,s.va,s.vb,x,y⟩
def nvM(m:Mb):Nat:=if m.fp then 2 else 1
def vrS(s:St):Prop:=∀ d,(-63<=sXs s d/\sXs s d<=63)/\(-63<=sYs s d/\sYs s d<=63)
theorem zwZ(m:Mb):nvM m<=2/\1<=nvM m:=by unfold nvM;split<;>omega
section
variable (H:za) (i j:Nat) (M:List Bool) (x0 x1 x3:Blk) (c:Cx) (m:Mb) (s:St) (K:za)
end
end Sc
namespace Sc
open Pm Ty Go.RowKit
def dcS(s:St)(k:Nat):Int:=if k=0 then s.da else if k=1 then s.db else s.dc
def zdy(s:St)(k:Nat)(x:Int):St:=if k=0 then⟨s.q,x,s.db,s.dc,s.va,s.vb,s.vc,s.vd⟩else if k=1 then⟨s.q,s.da,x,s.dc,s.va,s.vb,s.vc,s.vd⟩else⟨s.q,s.da,s.db,x,s.va,s.vb,s.vc,s.vd⟩
def dcR(s:St):Prop:=∀ k,-4095<=dcS s k/\dcS s k<=4095
theorem zpD{s:St}(h:dcR s)(k:Nat){x:Int}(hx: -4095<=x/\x<=4095):dcR (zdy s k x):=λe=>by
 have h0: -4095<=s.da/\s.da<=4095:=h 0;have h1: -4095<=s.db/\s.db<=4095:=h 1;have h2: -4095<=s.dc/\s.dc<=4095:=h 2;unfold zdy;split
 .unfold dcS;dsimp only;split;exact hx;split;exact h1;exact h2
 .split
  .unfold dcS;dsimp only;split;exact h0;split;exact hx;exact h2
  .unfold dcS;dsimp only;split;exact h0;split;exact h1;exact hx
def zSt:St:=⟨0,0,0,0,0,0,0,0⟩
theorem zq3{lv:List Int}{n j:Nat}(h:zbk lv n=true)(hj:j<64):ze lv (n * 64+j)=0:=by
 have e:=zol lv n j hj;have hz:(lv.drop (n * 64)).take 64=List.replicate 64 0:=by simpa[zbk]using h
 rw[hz]at e;rw[<-e];rw[ze,uH,sD,gD hj];rfl
theorem zwD{x y:Int}(h:vrg x y=true):(-63<=x/\x<=63)/\(-63<=y/\y<=63):=by simp only[vrg,gB]at h;exact⟨zfs h.1,zfs h.2⟩
theorem zlx{s:St}(h:zgi s=true):(1<=s.q/\s.q<=31)/\vrS s/\dcR s:=by
 simp only[zgi,gB,vqB,gY]at h;obtain⟨⟨h1,h2,h3⟩,h4,h5,h6⟩:=h;refine⟨h4,λd=> ?_,λk=> ?_⟩
 .unfold sXs sYs;split
  .exact zwD h5
  .exact zwD h6
 .unfold dcS;split
  .exact zfs h1
  .split
   .exact zfs h2
   .exact zfs h3
def SameQ(s t:St):Prop:=t.q=s.q/\t.da=s.da/\t.db=s.db/\t.dc=s.dc
theorem SameQ.trans{a b c:St}(h:SameQ a b)(k:SameQ b c):SameQ a c:=⟨k.1.trans h.1,k.2.1.trans h.2.1,k.2.2.1.trans h.2.2.1,k.2.2.2.trans h.2.2.2⟩
theorem zmT{s t:St}(h:SameQ s t)(k:dcR s):dcR t:=λe=>by have:=k e;unfold dcS at this |-;rw[h.2.1,h.2.2.1,h.2.2.2];exact this
section
variable (H:za) (i j:Nat) (A B:Blk) (K:za)
end
theorem zO{n:Nat}{xs:List PV}(h:∀ x∈xs,Scoped n x):∀(j:Nat) (x:PV),xs[j]? =some x->Scoped n x:=λj x hx=>h x (uE hx)
theorem zew(c:Cx):(cxc c).all PV.cell=true:=rfl
theorem zlP(s:St):(stc s).all PV.cell=true:=rfl
theorem zcC(m:Mb):(mbc m).all PV.cell=true:=by have hall:=zq m.lv;simp[mbc,PV.cell];exact λx hx=>uJ.1 hall x hx
end Sc
namespace Sc
open Pm Ty Go.RowKit
def tkF(q:List UInt8)(n a:Nat):Rr Bool:=if a<n then .ok (decide (zal q a=1)) (a+1)else .er 3 a
def tkD(q:List UInt8)(n:Nat)(pr:Int)(most:Nat)(a:Nat):Rr Int:=(tkS q n a).bind λd a1=>if win (pr+d) most then .ok (pr+d) a1 else .er 2 a1
def zec(m:Mb)(d k:Nat)(x:Int):Mb:=if d=0 then(if k=0 then{ m with sa:=x }else{ m with sb:=x })else(if k=0 then{ m with sc:=x }else{ m with sd:=x })
def zaE(m:Mb)(d k:Nat)(x y:Int):Mb:=if d=0 then(if k=0 then{ m with va:=x,vb:=y }else{ m with vc:=x,vd:=y })else(if k=0 then{ m with ve:=x,vf:=y }else{ m with vg:=x,vh:=y })
def zcf(m:Mb)(n:Nat)(b:Bool):Mb:=if n=0 then{ m with ca:=b }else if n=1 then{ m with cb:=b }else if n=2 then{ m with cc:=b }else if n=3 then{ m with cd:=b }else if n=4 then{ m with ce:=b }else{ m with cf:=b }
def zaF(m:Mb)(n:Nat)(l:List Int):Mb:={ m with lv:=m.lv.take (n * 64)++l++m.lv.drop (n * 64+64) }
def inMb:Mb:=⟨1,false,false,false,false,0,0,0,0,0,0,0,0,0,0,0,0,0,true,true,true,true,true,true,zl384⟩
def zqq(v:Nat):Mb:=⟨2,decide (v<=2)||decide (5<=v),decide (3<=v),false,false,0,0,0,0,0,0,0,0,0,0,0,0,0,false,false,false,false,false,false,zl384⟩
def zb0(c:Cx)(q:List UInt8)(n a:Nat):Rr (Mb×Bool):=if c.t=1 then .ok (inMb,true) a else(tkU q n a).bind λv a1=>if(if c.t=2 then 3 else 7)<v then .er 2 a1 else if v=(if c.t=2 then 3 else 7)then .ok (inMb,true) a1 else if v=0 then .ok (zMb,false) a1 else .ok (zqq v,decide (v%2=0)) a1
def zc1(c:Cx)(q:List UInt8)(n:Nat)(m:Mb)(s:St)(d k a:Nat):Rr (Mb×St):=
 (if m.fp||fcx c then(tkF q n a).bind λb a1=>.ok (zec m d k (b.toNat:Int)) a1 else .ok m a).bind λm a1=>
 (tkD q n (sXs s d) 63 a1).bind λx a2=>(tkD q n (sYs s d) 63 a2).bind λy a3=>.ok (zaE m d k x y,zbx s d x y) a3
def zaS(c:Cx)(q:List UInt8)(n d:Nat):Nat->Nat->Mb->St->Nat->Rr (Mb×St)
 | 0,_,m,s,a=>.ok (m,s) a
 | r+1,k,m,s,a=>(zc1 c q n m s d k a).bind λx a1=>zaS c q n d r (k+1) x.1 x.2 a1
def zdY(c:Cx)(q:List UInt8)(n:Nat)(m:Mb)(s:St)(d a:Nat):Rr (Mb×St):=if usd m d then zaS c q n d (nvM m) 0 m s a else .ok (m,s) a
def zbs(c:Cx)(q:List UInt8)(n:Nat):Nat->Nat->Mb->St->Nat->Rr (Mb×St)
 | 0,_,m,s,a=>.ok (m,s) a
 | r+1,d,m,s,a=>(zdY c q n m s d a).bind λx a1=>zbs c q n r (d+1) x.1 x.2 a1
def zbr(c:Cx)(q:List UInt8)(n:Nat)(m:Mb)(s:St)(a:Nat):Rr (Mb×St):=if m.k=2 then(if bcx c then(tkF q n a).bind λb a1=>.ok { m with fp:=b } a1 else .ok m a).bind λm a1=>zbs c q n 2 0 m s a1 else .ok (m,s) a
def zbO(c:Cx)(q:List UInt8)(n:Nat)(hl:Bool)(m:Mb)(s:St)(a:Nat):Rr (Mb×St):=if hl then(if bcx c then(tkF q n a).bind λb a1=>.ok { m with fd:=b } a1 else .ok m a).bind λm a1=>(tkS q n a1).bind λd a2=>if vqB (s.q+d)then .ok ({ m with dl:=d },{ s with q:=s.q+d }) a2 else .er 2 a2 else .ok (m,s) a
def zc9(q:List UInt8)(n:Nat):Nat->Mb->Nat->Rr Mb
 | 0,m,a=>if zg7 m then .ok m a else .er 2 a
 | r+1,m,a=>(tkF q n a).bind λb a1=>zc9 q n r (zcf m (5 - r) b) a1
def zbL(q:List UInt8)(n:Nat)(hl:Bool)(m:Mb)(a:Nat):Rr Mb:=if decide (m.k=2)&&hl then zc9 q n 6 m a else .ok m a
def zax(q:List UInt8)(n:Nat):Nat->Mb->St->Nat->Rr (Mb×St)
 | 0,m,s,a=>.ok (m,s) a
 | r+1,m,s,a=>if zN (cdl m) (5 - r)then
   (if m.k=2 then(zda q n 0 a).bind λl a1=>if l=z64 then .er 2 a1 else zax q n r (zaF m (5 - r) l) s a1
    else(tkD q n (dcS s (5 - r - 3)) 4095 a).bind λd a1=>(zda q n 1 a1).bind λl a2=>zax q n r (zaF m (5 - r) (l.set 0 d)) (zdy s (5 - r - 3) d) a2)else zax q n r m s a
def zj8(c:Cx)(q:List UInt8)(n:Nat)(hl:Bool)(m:Mb)(s:St)(a:Nat):Rr (Mb×St):=(zbr c q n m s a).bind λy a2=>(zbO c q n hl y.1 y.2 a2).bind λz a3=>(zbL q n hl z.1 a3).bind λm a4=>(zax q n 6 m z.2 a4).bind λw a5=>.ok (w.1,aft w.2 w.1.k) a5
def mtk(c:Cx)(s:St)(q:List UInt8)(n a:Nat):Rr (Mb×St):=(zb0 c q n a).bind λx a1=>zj8 c q n x.2 x.1 s a1
theorem zdS{q:List UInt8}{n a a1:Nat}{b:Bool}(h:tkF q n a= .ok b a1):a1=a+1/\a<n/\b=decide (zal q a=1):=by grind[tkF]
theorem zgS{q:List UInt8}{n a e a1:Nat}(h:tkF q n a= .er e a1):a1=a/\e=3/\n<=a:=by grind[tkF]
theorem zhS{q:List UInt8}{n a a1 most:Nat}{pr v:Int}(h:tkD q n pr most a= .ok v a1)(ha:a<=n):(-(most:Int)<=v/\v<=most)/\a<=a1/\a1<=n:=by
 unfold tkD at h;cases hs:tkS q n a with
 | er e a2=>rw[hs]at h;cases h
 | ok d a2=>
  rw[hs,Rr.bind_ok]at h;have b:=zcS hs ha;split at h
  .simp_all[zfs];omega
  .cases h
theorem zru{q:List UInt8}{n a a1 e most:Nat}{pr:Int}(h:tkD q n pr most a= .er e a1)(ha:a<=n):a<=a1/\a1<=n/\e<=3:=by
 unfold tkD at h;cases hs:tkS q n a with
 | er e2 a2=>
  rw[hs]at h;have:=zft hs;injection h with h1 h2;omega
 | ok d a2=>rw[hs,Rr.bind_ok]at h;have b:=zcS hs ha;grind
def tC(s:St)(w:Nat)(c:Cx)(mi:Nat)(hl:Bool):List PV:=[O J s.q,O J s.da,O J s.db,O J s.dc,O J s.va,O J s.vb,O J s.vc,O J s.vd,.ptr w 0 0,O J c.t,O J c.s,.bool c.i,.bool c.n,.ptr mi 0 0,.bool hl]
def tB(s:St)(w:Nat)(c:Cx)(mi:Nat)(hl:Bool):Blk:=⟨249,0,tC s w c mi hl⟩
theorem zG(s:St)(w:Nat)(c:Cx)(mi:Nat)(hl:Bool):(tB s w c mi hl).ver=0:=rfl
theorem zK(s:St)(w:Nat)(c:Cx)(mi:Nat)(hl:Bool):(tB s w c mi hl).cells=tC s w c mi hl:=rfl
theorem zfd(s:St)(w:Nat)(c:Cx)(mi:Nat)(hl:Bool):(tB s w c mi hl).e=249:=rfl
theorem zaD(m:Mb):(mB m).ver=0:=rfl
theorem zaG(m:Mb):(mB m).cells=mbc m:=rfl
theorem zcn(m:Mb):(mB m).e=142:=rfl
def tG(H:za)(i:Nat)(p:List UInt8)(n a:Nat)(X:za)(B4 B5:Blk):za:=H.set i (rA p n a)++(X++[B4,B5])
section
variable (H:za) (i:Nat) (p:List UInt8) (n a:Nat) (X:za) (B4 B5:Blk)
theorem znj(hi:i<H.length):(tG H i p n a X B4 B5)[i]? =some (rA p n a):=by simp_all[tG,gK]
theorem zhY(hi:i<H.length)(a':Nat):(tG H i p n a X B4 B5).set i (rA p n a')=tG H i p n a' X B4 B5:=by simp_all[tG,uL,vL]
theorem zlL(hX:X.length=4):(tG H i p n a X B4 B5)[H.length+4]? =some B4:=by simp_all[tG,gN,gS]
theorem zkc(hX:X.length=4):(tG H i p n a X B4 B5)[H.length+5]? =some B5:=by simp_all[tG,gN,gS]
theorem zh0(hX:X.length=4)(B:Blk):(tG H i p n a X B4 B5).set (H.length+4) B=tG H i p n a X B B5:=by simp_all[tG,uC,gS]
theorem zhZ(hX:X.length=4)(B:Blk):(tG H i p n a X B4 B5).set (H.length+5) B=tG H i p n a X B4 B:=by simp_all[tG,uC,gS]
end
def rvF:Rr Bool->PV
 | .ok b _=>.tup [.bool b,O J 0]
 | .er e _=>.tup [.bool false,O J ((e:Int)+1)]
section
variable (H:za) (i:Nat) (p:List UInt8) (n a:Nat) (X:za) (B4:Blk) (c:Cx) (s:St) (hl:Bool) (hi:i<H.length) (hX:X.length=4) (ha:a<=n) (hn:n<=8 * p.length) (hp:p.length<=100000000)
include hi hX ha hn hp
theorem zhX(pr:Int)(most:Nat)(hm:most<=4095)(hpr: -4095<=pr/\pr<=4095):CallOk prog 214 [.ptr (H.length+5) 0 0,O J pr,O J (most:Int)] (tG H i p n a X B4 (tB s i c (H.length+4) hl)) (rvS (tkD p n pr most a)) (tG H i p n (tkD p n pr most a).at X B4 (tB s i c (H.length+4) hl)):=by
 have g5:=λa=>zkc H i p n a X B4 (tB s i c (H.length+4) hl) hX;have gi:=znj H i p n a X B4 (tB s i c (H.length+4) hl) hi;have pc8:(tC s i c (H.length+4) hl)[8]? =some (.ptr i 0 0):=rfl;have t:=zj5 i p n a _ gi ha hn hp;have wo:=λx K=>zgg x most K om;rw[zhY _ _ _ _ _ _ _ _ hi]at t;unfold tkD;cases hs:tkS p n a with
 | er e a1=>
  rw[hs]at t;simp only[Rr.bind,rvS,Rr.at]at t |-;have he:=(zft hs).2;have d0:((e:Int)+1 !=0)=true:=by simp;omega
  generalize tG H i p n a1 X B4 (tB s i c (H.length+4) hl)=Hz at *;refine .go func214 ntmps214 results214 ?_;refine .e (.f (λK k=>by simp(disch:=omega) only[go_sem,g5,zG,zK,pc8];refine VCx.call (t) rfl ?_;simp(disch:=omega) only[go_sem,g5,zG,zK,pc8];exact k) ?_);refine .g d0 ?_;refine .t (.e ?_);exact .ret ⟨_,rfl,Fin.now⟩
 | ok d a1=>
  rw[hs]at t;have b:=(zcS hs ha).1;simp only[Rr.bind,rvS,Rr.at]at t;have wd:=λK=>wo (pr+d) K;refine .go func214 ntmps214 results214 ?_;refine .e (.f (λK k=>by simp(disch:=omega) only[go_sem,g5,zG,zK,pc8];refine VCx.call (t) rfl ?_;simp(disch:=omega) only[go_sem,g5,zG,zK,pc8];exact k) ?_);refine .e (.us ?_);simp only[Rr.bind];cases hw:win (pr+d) most with
  | true=>
   rw[hw]at wd;refine .x λK hK=> ?_;simp(disch:=omega) only[go_sem];refine VCx.call (wd _) rfl ?_;simp(disch:=omega) only[go_sem];refine hK _ _ ?_;clear hK K;refine .us (.e ?_);exact .ret ⟨_,rfl,Fin.now⟩
  | false=>rw[hw]at wd;refine .x λK hK=> ?_;simp(disch:=omega) only[go_sem];refine VCx.call (wd _) rfl ?_;simp(disch:=omega) only[go_sem];refine hK _ _ ?_;clear hK K;refine .t (.e ?_);exact .ret ⟨_,rfl,Fin.now⟩
end
end Sc
namespace Sc
open Pm Ty Go.RowKit
theorem ziz(m:Mb)(x:Int):(mbc m).set 0 (O J x)=mbc { m with k:=x }:=rfl
theorem zs0(m:Mb)(x y:Bool):qB 1 (mbc m)++ .bool x:: .bool y::qE 3 (mbc m)=mbc { m with ua:=x,ub:=y }:=rfl
theorem zvG(m:Mb)(b0 b1 b2 b3 b4 b5:Bool):qB 18 (mbc m)++ .bool b0:: .bool b1:: .bool b2:: .bool b3:: .bool b4:: .bool b5::qE 24 (mbc m)=mbc { m with ca:=b0,cb:=b1,cc:=b2,cd:=b3,ce:=b4,cf:=b5 }:=rfl
theorem zbd(m:Mb):(⟨142,0,mbc m⟩:Blk)=mB m:=rfl
theorem zcv(s:St)(w:Nat)(c:Cx)(mi:Nat)(hl:Bool):(⟨249,0,tC s w c mi hl⟩:Blk)=tB s w c mi hl:=rfl
theorem zwL(s:St)(w:Nat)(c:Cx)(mi:Nat)(hl b:Bool):(tC s w c mi hl).set 14 (.bool b)=tC s w c mi b:=rfl
theorem zay(s:St)(w:Nat)(c:Cx)(mi:Nat)(hl:Bool):(tC s w c mi hl)[13]? =some (.ptr mi 0 0):=rfl
theorem zc2(s:St)(w:Nat)(c:Cx)(mi:Nat)(hl:Bool):(tC s w c mi hl)[8]? =some (.ptr w 0 0):=rfl
theorem zu3(s:St)(w:Nat)(c:Cx)(mi:Nat)(hl:Bool):(tC s w c mi hl)[9]? =some (O J c.t):=rfl
theorem zrB(s:St)(w:Nat)(c:Cx)(mi:Nat)(hl:Bool):qB 4 (qE 9 (tC s w c mi hl))=cxc c:=rfl
theorem zlM(s:St)(w:Nat)(c:Cx)(mi:Nat)(hl:Bool):(tC s w c mi hl)[14]? =some (.bool hl):=rfl
theorem zao(s:St)(w:Nat)(c:Cx)(mi:Nat)(hl:Bool):(tC s w c mi hl).length=15:=rfl
theorem zwr(H:za):CallOk prog 152 [] H (.agg [.bool true,.bool true,.bool true,.bool true,.bool true,.bool true]) H:=by refine .go func152 ntmps152 results152 ?_;refine .e (.e ?_);refine .v (.agg [.bool true,.bool true,.bool true,.bool true,.bool true,.bool true]) ?_;exact .base (.id (zn (zjC _ [true,true,true,true,true,true])))
section
variable (H:za) (i:Nat) (p:List UInt8) (n a:Nat) (X:za) (c:Cx) (s:St) (hl:Bool) (hX:X.length=4)
include hX
theorem zpY(m:Mb)(hml:m.lv.length=384):CallOk prog 205 [.ptr (H.length+5) 0 0] (tG H i p n a X (mB m) (tB s i c (H.length+4) hl)) (.tup []) (tG H i p n a X (mB { m with k:=1,ca:=true,cb:=true,cc:=true,cd:=true,ce:=true,cf:=true }) (tB s i c (H.length+4) true)):=by have g5:=λB4 B5=>zkc H i p n a X B4 B5 hX;have g4:=λB4 B5=>zlL H i p n a X B4 B5 hX;have s5:=λB4 B5 B=>zhZ H i p n a X B4 B5 hX B;have s4:=λB4 B5 B=>zh0 H i p n a X B4 B5 hX B;have hlen:=zu m hml;have al:=λK=>zwr K;refine .go func205 ntmps205 results205 ?_;refine .f (λK k=>by simp(disch:=omega) only[go_sem,g5,g4,s4,s5,zG,zK,zay,zaD,zaG,zcn,ziz,zbd,hlen];exact k) ?_;have hlen2:=zu { m with k:=1 } hml;refine .dn λK hK=> ?_;simp(disch:=omega) only[go_sem,g5,g4,s4,s5,zG,zK,zay,zaD,zaG,zcn,zbd,hlen2];refine VCy.callP al rfl ?_;simp(disch:=omega) only[go_sem,g5,g4,s4,s5,zG,zK,zay,zaD,zaG,zcn,zbd,hlen2,zvG,qA];refine hK _ _ ?_;clear hK K;refine .f (λK k=>by simp(disch:=omega) only[go_sem,g5,g4,s4,s5,zG,zK,zfd,zay,zwL,zao,zcv];exact k) ?_;exact sI _ (uI rfl Fin.now)
end
def ecd:Nat->PV:=λe=>O J ((e:Int)+1)
theorem zW:zl384.length=384:=by unfold zl384;exact uQ
section
variable (H:za) (i:Nat) (p:List UInt8) (n a:Nat) (X:za) (c:Cx) (s:St) (hi:i<H.length) (hX:X.length=4) (ha:a<=n) (hn:n<=8 * p.length) (hp:p.length<=100000000)
include hi hX ha hn hp
theorem zri:CallOk prog 146 [.ptr (H.length+5) 0 0] (tG H i p n a X (mB zMb) (tB s i c (H.length+4) false))
  (match zb0 c p n a with| .ok _ _=>O J 0| .er e _=>ecd e)
  (match zb0 c p n a with| .ok x a1=>tG H i p n a1 X (mB x.1) (tB s i c (H.length+4) x.2)| .er _ a1=>tG H i p n a1 X (mB zMb) (tB s i c (H.length+4) false)):=by
 have g5:=λa B4 B5=>zkc H i p n a X B4 B5 hX;have g4:=λa B4 B5=>zlL H i p n a X B4 B5 hX;have s5:=λa B4 B5 B=>zhZ H i p n a X B4 B5 hX B;have s4:=λa B4 B5 B=>zh0 H i p n a X B4 B5 hX B;have ti:=λa=>zpY H i p n a X c s false hX zMb zW;have hzl:=zu zMb zW;refine .go func146 ntmps146 results146 ?_;refine .e ?_;by_cases ht1:c.t=1
 .have q1:(c.t==1)=true:=by simp[ht1]
  refine .f (λK k=>by simp(disch:=omega) only[go_sem,g5,zG,zK,zu3,q1];exact k) ?_;refine .t (.k ti ?_);refine .e (.ret ⟨_,rfl,?_⟩);have hk:zb0 c p n a= .ok (inMb,true) a:=by unfold zb0;rw[gD ht1]
  rw[hk];exact .now
 have q1:(c.t==1)=false:=by simp[ht1]
 have tu:=zj4 i p n a _ (znj H i p n a X (mB zMb) (tB s i c (H.length+4) false) hi) ha hn hp;rw[zhY _ _ _ _ _ _ _ _ hi]at tu;have hk:zb0 c p n a=(tkU p n a).bind λv a1=>if(if c.t=2 then 3 else 7)<v then .er 2 a1 else if v=(if c.t=2 then 3 else 7)then .ok (inMb,true) a1 else if v=0 then .ok (zMb,false) a1 else .ok (zqq v,decide (v%2=0)) a1:=by unfold zb0;rw[gC ht1]
 refine .f (λK k=>by simp(disch:=omega) only[go_sem,g5,zG,zK,zu3,q1];exact k) ?_;refine .us ?_;cases hu:tkU p n a with
 | er e a1=>
  rw[hu]at tu hk;rw[hk];simp only[rvU,Rr.at,Rr.bind]at tu |-;have d0:((e:Int)+1 !=0)=true:=by simp;omega
  have he:=(zgR hu).2;refine .f (λK k=>by simp(disch:=omega) only[go_sem,g5,zG,zK,zc2];refine VCx.call (tu) rfl ?_;simp(disch:=omega) only[go_sem,g5,zG,zK,zc2];exact k) ?_;refine .g d0 ?_;refine .t (.e ?_);exact .ret ⟨_,rfl,Fin.now⟩
 | ok v a1=>
  have hb:=zdR hu ha;rw[hu]at tu hk;rw[hk];simp only[rvU,Rr.at,Rr.bind]at tu |-;clear hk hu;refine .f (λK k=>by simp(disch:=omega) only[go_sem,g5,zG,zK,zc2];refine VCx.call (tu) rfl ?_;simp(disch:=omega) only[go_sem,g5,zG,zK,zc2];exact k) ?_;refine .e (.us ?_);refine .e (.to [0,3,5] [(0,.ptr (H.length+5) 0 0),(3,O J (v:Int)),(5,O J ((if c.t=2 then 3 else 7:Nat):Int))] (tG H i p n a1 X (mB zMb) (tB s i c (H.length+4) false)) ?_ ?_)
  .by_cases ht2:c.t=2
   .have q2:(c.t==2)=true:=by simp[ht2]
    rw[gD ht2];refine .f (λK k=>by simp(disch:=omega) only[go_sem,g5,zG,zK,zu3,q2];exact k) ?_;refine .t (.e ?_);exact⟨rfl,rfl⟩
   .have q2:(c.t==2)=false:=by simp[ht2]
    rw[gC ht2];refine .f (λK k=>by simp(disch:=omega) only[go_sem,g5,zG,zK,zu3,q2];exact k) ?_;refine .u ?_;exact .skip ⟨rfl,rfl⟩
  have hL:(if c.t=2 then 3 else 7:Nat)<=7:=by grind
  have hL0:3<=(if c.t=2 then 3 else 7:Nat):=by grind
  generalize (if c.t=2 then 3 else 7:Nat)=last at *;refine .b ?_;by_cases h1:last<v
  .have d1:decide ((last:Int)<(v:Int))=true:=gX om;rw[gD h1];refine .g d1 ?_;refine .t (.e ?_);exact .ret ⟨_,rfl,Fin.now⟩
  have d1:decide ((last:Int)<(v:Int))=false:=gW om;rw[gC h1];refine .g d1 ?_;refine .u ?_;by_cases h2:v=last
  .have d2:((v:Int)==(last:Int))=true:=by simp[h2]
   rw[gD h2];refine .g d2 ?_;refine .t (.k ti ?_);refine .e ?_;exact .ret ⟨_,rfl,Fin.now⟩
  have d2:((v:Int)==(last:Int))=false:=by grind
  rw[gC h2];refine .g d2 ?_;refine .u ?_;by_cases h3:v=0
  .have d3:decide ((0:Int)<(v:Int))=false:=gW om;rw[gD h3];refine .g d3 ?_;refine .us (.e ?_);exact .ret ⟨_,rfl,Fin.now⟩
  have d3:decide ((0:Int)<(v:Int))=true:=gX om;rw[gC h3];refine .g d3 ?_;refine .t ?_;have hv7:v<7:=om;have h6:v=1\/v=2\/v=3\/v=4\/v=5\/v=6:=om;have hm6:mbc { zMb with k:=2 }=mbc { zMb with k:=2 }:=rfl;have hzl2:=zu { zMb with k:=2 } zW;clear h1 h2 h3 d1 d2 d3 hb hL hL0 tu;refine .f (λK k=>by simp(disch:=omega) only[go_sem,g5,g4,s4,s5,zG,zK,zay,zaD,zaG,zcn,ziz,zbd,hzl];exact k) ?_;rcases h6 with rfl|rfl|rfl|rfl|rfl|rfl;all_goals
   refine .f (λK k=>by simp(disch:=omega) only[go_sem,g5,g4,s4,s5,zG,zK,zay,zaD,zaG,zcn,zs0,zbd,hzl2,qA];exact k) ?_;refine .f (λK k=>by simp(disch:=omega) only[go_sem,g5,s5,zG,zK,zfd,zwL,zao,zcv];exact k) ?_;refine .e ?_;exact .ret ⟨_,rfl,Fin.now⟩
end
end Sc
namespace Sc
open Pm Ty Go.RowKit
theorem tC_x(s:St)(w:Nat)(c:Cx)(mi:Nat)(hl:Bool)(d:Nat)(hd:d<2):(tC s w c mi hl)[4+d * 2]? =some (O J (sXs s d)):=by have:d=0\/d=1:=om;rcases this with rfl|rfl<;>rfl
theorem tC_y(s:St)(w:Nat)(c:Cx)(mi:Nat)(hl:Bool)(d:Nat)(hd:d<2):(tC s w c mi hl)[4+d * 2+1]? =some (O J (sYs s d)):=by have:d=0\/d=1:=om;rcases this with rfl|rfl<;>rfl
theorem zzB(s:St)(w:Nat)(c:Cx)(mi:Nat)(hl:Bool)(d:Nat)(hd:d<2)(x:Int):(tC s w c mi hl).set (4+d * 2) (O J x)=tC (zbx s d x (sYs s d)) w c mi hl:=by have:d=0\/d=1:=om;rcases this with rfl|rfl<;>rfl
theorem zzA(s:St)(w:Nat)(c:Cx)(mi:Nat)(hl:Bool)(d:Nat)(hd:d<2)(y:Int):(tC s w c mi hl).set (4+d * 2+1) (O J y)=tC (zbx s d (sXs s d) y) w c mi hl:=by have:d=0\/d=1:=om;rcases this with rfl|rfl<;>rfl
theorem tC_v(s:St)(w:Nat)(c:Cx)(mi:Nat)(hl:Bool)(d:Nat)(hd:d<2):qB 2 (qE (4+d * 2) (tC s w c mi hl))=[O J (sXs s d),O J (sYs s d)]:=by have:d=0\/d=1:=om;rcases this with rfl|rfl<;>rfl
theorem zx2(s:St)(d:Nat)(x y z:Int):zbx (zbx s d x y) d x z=zbx s d x z:=by unfold zbx;split<;>rfl
theorem zrZ(s:St)(d:Nat)(x y:Int):sXs (zbx s d x y) d=x:=by unfold zbx sXs;split<;>rfl
theorem zrY(s:St)(d:Nat)(x y:Int):sYs (zbx s d x y) d=y:=by unfold zbx sYs;split<;>rfl
theorem zs1(m:Mb)(d k:Nat)(hd:d<2)(hk:k<2)(x:Int):(mbc m).set (13+d * 2+k) (O J x)=mbc (zec m d k x):=by have h1:d=0\/d=1:=om;have h2:k=0\/k=1:=om;rcases h1 with rfl|rfl<;>rcases h2 with rfl|rfl<;>rfl
theorem zyr(m:Mb)(d k:Nat)(hd:d<2)(hk:k<2)(x y:Int):qB (5+d * 4+k * 2) (mbc m)++ O J x:: O J y::qE (5+d * 4+k * 2+(1+1)) (mbc m)=mbc (zaE m d k x y):=by have h1:d=0\/d=1:=om;have h2:k=0\/k=1:=om;rcases h1 with rfl|rfl<;>rcases h2 with rfl|rfl<;>rfl
theorem zr0(m:Mb)(d k:Nat)(x:Int):(zec m d k x).lv=m.lv:=by unfold zec;split<;>split<;>rfl
theorem zeb(m:Mb)(d k:Nat)(x y:Int):(zaE m d k x y).lv=m.lv:=by unfold zaE;split<;>split<;>rfl
def zqk(H:za)(i:Nat)(p:List UInt8)(n:Nat)(X:za)(c:Cx)(hl:Bool)(x:Rr (Mb×St)):PV->za->Prop:=λv H'=>
 match x with
 | .ok y a=>v= O J 0/\H'=tG H i p n a X (mB y.1) (tB y.2 i c (H.length+4) hl)
 | .er e _=>v=ecd e/\∃ a m s,a<=n/\m.lv.length=384/\H'=tG H i p n a X (mB m) (tB s i c (H.length+4) hl)
section
variable (H:za) (i:Nat) (p:List UInt8) (n:Nat) (X:za) (c:Cx) (hl:Bool) (hi:i<H.length) (hX:X.length=4) (hn:n<=8 * p.length) (hp:p.length<=100000000)
include hi hX hn hp
theorem zuT(m:Mb)(s:St)(d k a:Nat)(hd:d<2)(hk:k<2)(hml:m.lv.length=384)(hs:vrS s)(ha:a<=n):CallEx prog 210 [.ptr (H.length+5) 0 0,O J (d:Int),O J (k:Int)] (tG H i p n a X (mB m) (tB s i c (H.length+4) hl)) (zqk H i p n X c hl (zc1 c p n m s d k a)):=by
 have g5:=λa B4 B5=>zkc H i p n a X B4 B5 hX;have g4:=λa B4 B5=>zlL H i p n a X B4 B5 hX;have s5:=λa B4 B5 B=>zhZ H i p n a X B4 B5 hX B;have s4:=λa B4 B5 B=>zh0 H i p n a X B4 B5 hX B;have gi:=λa B4 B5=>znj H i p n a X B4 B5 hi;have si:=λa B4 B5 a'=>zhY H i p n a X B4 B5 hi a';have hlen:=zu m hml;have se:=znp c m (H.length+4) _ (g4 a (mB m) (tB s i c (H.length+4) hl));have tx:=λs=>tC_x s i c (H.length+4) hl d hd;have ty:=λs=>tC_y s i c (H.length+4) hl d hd;have tsx:=λs=>zzB s i c (H.length+4) hl d hd;have tsy:=λs=>zzA s i c (H.length+4) hl d hd;have tv:=λs=>tC_v s i c (H.length+4) hl d hd;generalize hres:zc1 c p n m s d k a=res;unfold zc1 at hres;refine CallEx.body (F0:=[(0,.ptr (H.length+5) 0 0),(1,O J (d:Int)),(2,O J (k:Int))]) func210 rfl ntmps210 results210 rfl kr rfl ?_;refine .e ?_;(repeat refine .seq ?_);refine .drawt [] [] mix kr λK hK=> ?_;simp(maxSteps:=9^9) (disch:=omega) only[go_sem,g5,zG,zK,zrB,zay,zao,qA,qD];refine VCj.now (se) rfl ?_;simp(maxSteps:=9^9) (disch:=omega) only[go_sem];refine hK _ _ ?_;suffices hrest:∀(m:Mb) (a:Nat),m.lv.length=384->a<=n->((tkD p n (sXs s d) 63 a).bind λx a2=>(tkD p n (sYs s d) 63 a2).bind λy a3=>.ok (zaE m d k x y,zbx s d x y) a3)=res->
   PW prog _ _ [(0,.ptr (H.length+5) 0 0),(1,O J (d:Int)),(2,O J (k:Int))] (tG H i p n a X (mB m) (tB s i c (H.length+4) hl)) _ by
  cases hsel:(m.fp||fcx c)with
  | false=>
   rw[hsel,gC (by decide),Rr.bind_ok]at hres;refine .us ?_;exact .a (hrest m a hml ha hres)
  | true=>
   rw[hsel,gD rfl]at hres;refine .t ?_;by_cases han:a<n
   .have hf:tkF p n a= .ok (decide (zal p a=1)) (a+1):=by unfold tkF;rw[gD han]
    rw[hf,Rr.bind_ok,Rr.bind_ok]at hres;have hub:=zch p a;have t:=zee i p n a 1 _ (gi a (mB m) (tB s i c (H.length+4) hl)) om hn hp om;rw[si,show vl p a 1=zal p a by simp[vl]]at t;have hbn:((decide (zal p a=1)).toNat:Int)=(zal p a:Int):=by have:zal p a=0\/zal p a=1:=om;rcases this with e|e<;>rw[e]<;>rfl
    rw[hbn]at hres;have hst:=zs1 m d k hd hk (zal p a:Int);refine .f (λK k=>by simp(maxSteps:=9^9) (disch:=omega) only[go_sem,g5,zG,zK,zc2];refine VCx.call (t) rfl ?_;simp(maxSteps:=9^9) (disch:=omega) only[go_sem,g5,zG,zK,zc2];exact k) ?_;refine .e (.us ?_);refine .f (λK k=>by simp(maxSteps:=9^9) (disch:=omega) only[go_sem,g5,g4,s4,zG,zK,zay,zaD,zaG,zcn,hlen,hst,zbd];exact k) ?_;exact .a (hrest _ (a+1) (by rw[zr0];exact hml) om hres)
   .have hf:tkF p n a= .er 3 a:=by unfold tkF;rw[gC han]
    rw[hf,Rr.bind_er,Rr.bind_er]at hres;have t:=zb2 i p n a 1 _ (gi a (mB m) (tB s i c (H.length+4) hl)) om om om om;refine .f (λK k=>by simp(maxSteps:=9^9) (disch:=omega) only[go_sem,g5,zG,zK,zc2];refine VCx.call (t) rfl ?_;simp(maxSteps:=9^9) (disch:=omega) only[go_sem,g5,zG,zK,zc2];exact k) ?_;refine .e (.t ?_);refine .e (.ret ⟨_,rfl,.inl ?_⟩);rw[<-hres];exact⟨rfl,a,m,s,ha,hml,rfl⟩
 clear hres ha hml hlen se;intro m a hml ha hres;have hlen:=zu m hml;have hsd:=hs d;refine .g (nq2 g5 @zG) ?_;have t1:=zhX H i p n a X (mB m) c s hl hi hX ha hn hp (sXs s d) 63 om om;cases h1:tkD p n (sXs s d) 63 a with
 | er e a1=>
  have hb:=zru h1 ha;rw[h1]at t1 hres;simp only[rvS,Rr.at,Rr.bind]at t1 hres;have d0:((e:Int)+1 !=0)=true:=by simp;omega
  refine .f (λK k=>by simp(maxSteps:=9^9) (disch:=omega) only[go_sem,g5,zG,zK,tx,s5,tsx,zfd,zcv,zao];refine VCx.call (t1) rfl ?_;simp(maxSteps:=9^9) (disch:=omega) only[go_sem,g5,zG,zK,tx,s5,tsx,zfd,zcv,zao];exact k) ?_;refine .g d0 ?_;refine .t (.e ?_);refine .ret ⟨_,rfl,.inl ?_⟩;rw[<-hres];exact⟨rfl,a1,m,_,hb.2.1,hml,rfl⟩
 | ok x a1=>
  have hb:=zhS h1 ha;rw[h1]at t1 hres;simp only[rvS,Rr.at]at t1;rw[Rr.bind_ok]at hres;refine .f (λK k=>by simp(maxSteps:=9^9) (disch:=omega) only[go_sem,g5,zG,zK,tx,s5,tsx,zfd,zcv,zao];refine VCx.call (t1) rfl ?_;simp(maxSteps:=9^9) (disch:=omega) only[go_sem,g5,zG,zK,tx,s5,tsx,zfd,zcv,zao];exact k) ?_;refine .e (.us ?_);have t2:=zhX H i p n a1 X (mB m) c (zbx s d x (sYs s d)) hl hi hX hb.2.2 hn hp (sYs s d) 63 om om;have ty2:=ty (zbx s d x (sYs s d));rw[zrY]at ty2;have tsy2:=tsy (zbx s d x (sYs s d));rw[zrZ]at tsy2;simp only[zx2]at tsy2;cases h2:tkD p n (sYs s d) 63 a1 with
  | er e a2=>
   have hb2:=zru h2 hb.2.2;rw[h2]at t2 hres;simp only[rvS,Rr.at,Rr.bind]at t2 hres;have d0:((e:Int)+1 !=0)=true:=by simp;omega
   refine .f (λK k=>by simp(maxSteps:=9^9) (disch:=omega) only[go_sem,g5,zG,zK,ty2,s5,tsy2,zfd,zcv,zao];refine VCx.call (t2) rfl ?_;simp(maxSteps:=9^9) (disch:=omega) only[go_sem,g5,zG,zK,ty2,s5,tsy2,zfd,zcv,zao];exact k) ?_;refine .g d0 ?_;refine .t (.e ?_);refine .ret ⟨_,rfl,.inl ?_⟩;rw[<-hres];exact⟨rfl,a2,m,_,hb2.2.1,hml,rfl⟩
  | ok y a2=>have hb2:=zhS h2 hb.2.2;rw[h2]at t2 hres;simp only[rvS,Rr.at]at t2;rw[Rr.bind_ok]at hres;have tv2:=tv (zbx s d x y);rw[zrZ,zrY]at tv2;have hsv:=zyr m d k hd hk x y;refine .f (λK k=>by simp(maxSteps:=9^9) (disch:=omega) only[go_sem,g5,zG,zK,ty2,s5,tsy2,zfd,zcv,zao];refine VCx.call (t2) rfl ?_;simp(maxSteps:=9^9) (disch:=omega) only[go_sem,g5,zG,zK,ty2,s5,tsy2,zfd,zcv,zao];exact k) ?_;refine .e (.us ?_);refine .y [H.length+4] [(81,[0]),(87,[0]),(88,[0]),(89,[0]),(90,[0])] [] [] λK hK=> ?_;simp(maxSteps:=9^9) (disch:=omega) only[go_sem,g5,g4,s4,zG,zK,zay,zao,tv2,zaD,zaG,zcn,hlen,hsv,zbd];refine hK _ _ ?_;refine .e (.ret ⟨_,rfl,.inl ?_⟩);rw[<-hres];exact⟨rfl,rfl⟩
end
end Sc
namespace Sc
open Pm Ty Go.RowKit
theorem zgl(L:za)(ti i:Nat)(p:List UInt8)(n a:Nat)(c:Cx)(s:St)(mi:Nat)(hl:Bool)(hT:L[ti]? =some (tB s i c mi hl))(hR:L[i]? =some (rA p n a))(ha:a<=n)(hn:n<=8 * p.length)(hp:p.length<=100000000):
  CallOk prog 208 [.ptr ti 0 0] L (rvF (tkF p n a)) (L.set i (rA p n (tkF p n a).at)):=by
 have hself:=zam hR;cases hf:tkF p n a with
 | ok b a1=>
  obtain⟨rfl,h2,rfl⟩:=zdS hf;have t:=zee i p n a 1 _ hR om hn hp om;rw[show vl p a 1=zal p a by simp[vl]]at t;have e1:((zal p a:Int)==1)=decide (zal p a=1):=by grind
  simp only[rvF,Rr.at];generalize L.set i (rA p n (a+1))=Hz at *;refine .go func208 ntmps208 results208 ?_;refine .e (.f (λK k=>by simp(maxSteps:=9^9) (disch:=omega) only[go_sem,hT,zG,zK,zc2];refine VCx.call (t) rfl ?_;simp(maxSteps:=9^9) (disch:=omega) only[go_sem,hT,zG,zK,zc2];exact k) ?_);refine .g e1 ?_;exact .ret ⟨_,rfl,Fin.now⟩
 | er e a1=>obtain⟨rfl,rfl,h2⟩:=zgS hf;have t:=zb2 i p n a1 1 _ hR om om om om;simp only[rvF,Rr.at,hself];refine .go func208 ntmps208 results208 ?_;refine .e (.f (λK k=>by simp(maxSteps:=9^9) (disch:=omega) only[go_sem,hT,zG,zK,zc2];refine VCx.call (t) rfl ?_;simp(maxSteps:=9^9) (disch:=omega) only[go_sem,hT,zG,zK,zc2];exact k) ?_);refine .e ?_;exact .ret ⟨_,rfl,Fin.now⟩
theorem zkF(m:Mb)(b:Bool):(mbc m).set 3 (.bool b)=mbc { m with fp:=b }:=rfl
theorem zkH(m:Mb)(b:Bool):(mbc m).set 4 (.bool b)=mbc { m with fd:=b }:=rfl
theorem zdX(m:Mb):(mbc m)[0]? =some (O J m.k):=rfl
theorem zym(m:Mb):qB 2 (qE 1 (mbc m))=[.bool m.ua,.bool m.ub]:=rfl
def SameU(m m':Mb):Prop:=m'.lv=m.lv/\m'.ua=m.ua/\m'.ub=m.ub/\m'.fp=m.fp/\m'.k=m.k
theorem SameU.refl(m:Mb):SameU m m:=⟨rfl,rfl,rfl,rfl,rfl⟩
theorem SameU.trans{a b c:Mb}(h:SameU a b)(k:SameU b c):SameU a c:=⟨k.1.trans h.1,k.2.1.trans h.2.1,k.2.2.1.trans h.2.2.1,k.2.2.2.1.trans h.2.2.2.1,k.2.2.2.2.trans h.2.2.2.2⟩
theorem zia(m:Mb)(d k:Nat)(x:Int):SameU m (zec m d k x):=by unfold zec;split<;>split<;>exact⟨rfl,rfl,rfl,rfl,rfl⟩
theorem zh9(m:Mb)(d k:Nat)(x y:Int):SameU m (zaE m d k x y):=by unfold zaE;split<;>split<;>exact⟨rfl,rfl,rfl,rfl,rfl⟩
theorem zly{s:St}(hs:vrS s)(d:Nat){x y:Int}(hx: -63<=x/\x<=63)(hy: -63<=y/\y<=63):vrS (zbx s d x y):=λe=>by have h0:=hs 0;have h1:=hs 1;grind[zbx,sXs,sYs]
theorem zrm{c:Cx}{p:List UInt8}{n:Nat}{m:Mb}{s:St}{d k a:Nat}{y:Mb×St}{a1:Nat}(h:zc1 c p n m s d k a= .ok y a1)(ha:a<=n)(hs:vrS s):a1<=n/\SameU m y.1/\vrS y.2:=by
 unfold zc1 at h;suffices hr:∀(m':Mb) (a':Nat),SameU m m'->a'<=n->((tkD p n (sXs s d) 63 a').bind λx a2=>(tkD p n (sYs s d) 63 a2).bind λy a3=>.ok (zaE m' d k x y,zbx s d x y) a3)= .ok y a1->a1<=n/\SameU m y.1/\vrS y.2 by
  split at h
  .cases hf:tkF p n a with
   | er e a2=>rw[hf]at h;cases h
   | ok b a2=>have:=zdS hf;grind[Rr.bind_ok,zia]
  .rw[Rr.bind_ok]at h;exact hr _ _ (.refl m) ha h
 intro m' a' hm' ha' h;cases h1:tkD p n (sXs s d) 63 a' with
 | er e a2=>rw[h1]at h;cases h
 | ok x a2=>
  have b1:=zhS h1 ha';rw[h1,Rr.bind_ok]at h;cases h2:tkD p n (sYs s d) 63 a2 with
  | er e a3=>rw[h2]at h;cases h
  | ok z a3=>have b2:=zhS h2 b1.2.2;rw[h2,Rr.bind_ok]at h;injection h with e1 e2;subst e1 e2;exact⟨b2.2.2,hm'.trans (zh9 _ _ _ _ _),zly hs d om om⟩
theorem zrl{c:Cx}{p:List UInt8}{n d:Nat}:∀(r k:Nat) (m:Mb) (s:St) (a:Nat) {y:Mb×St} {a1:Nat},zaS c p n d r k m s a= .ok y a1->a<=n->vrS s->a1<=n/\SameU m y.1/\vrS y.2
 | 0,k,m,s,a,y,a1,h,ha,hs=>by
  simp only[zaS]at h;injection h with e1 e2;subst e1 e2;exact⟨ha,.refl m,hs⟩
 | r+1,k,m,s,a,y,a1,h,ha,hs=>by
  simp only[zaS]at h;cases h1:zc1 c p n m s d k a with
  | er e a2=>rw[h1]at h;cases h
  | ok x a2=>obtain⟨b1,b2,b3⟩:=zrm h1 ha hs;rw[h1,Rr.bind_ok]at h;obtain⟨c1,c2,c3⟩:=zrl r (k+1) x.1 x.2 a2 h b1 b3;exact⟨c1,b2.trans c2,c3⟩
theorem zxO{c:Cx}{p:List UInt8}{n d:Nat}{m:Mb}{s:St}{a:Nat}{y:Mb×St}{a1:Nat}(h:zdY c p n m s d a= .ok y a1)(ha:a<=n)(hs:vrS s):a1<=n/\SameU m y.1/\vrS y.2:=by
 unfold zdY at h;split at h
 .exact zrl _ _ _ _ _ h ha hs
 .injection h with e1 e2;subst e1 e2;exact⟨ha,.refl m,hs⟩
section
variable (H:za) (i:Nat) (p:List UInt8) (n:Nat) (X:za) (c:Cx) (hl:Bool) (hi:i<H.length) (hX:X.length=4) (hn:n<=8 * p.length) (hp:p.length<=100000000)
include hi hX hn hp
theorem zrg(m:Mb)(s:St)(a:Nat)(hml:m.lv.length=384)(hs:vrS s)(ha:a<=n):CallEx prog 147 [.ptr (H.length+5) 0 0] (tG H i p n a X (mB m) (tB s i c (H.length+4) hl)) (zqk H i p n X c hl (zbr c p n m s a)):=by
 have g5:=λa B4 B5=>zkc H i p n a X B4 B5 hX;have g4:=λa B4 B5=>zlL H i p n a X B4 B5 hX;have s5:=λa B4 B5 B=>zhZ H i p n a X B4 B5 hX B;have s4:=λa B4 B5 B=>zh0 H i p n a X B4 B5 hX B;have gi:=λa B4 B5=>znj H i p n a X B4 B5 hi;have si:=λa B4 B5 a'=>zhY H i p n a X B4 B5 hi a';have hlen:=zu m hml;have bo:=λK=>zle c K;generalize hres:zbr c p n m s a=res;unfold zbr at hres;by_cases hk:m.k=2;rotate_left
 .rw[gC hk]at hres;have d1:decide (m.k=2)=false:=gW hk;have d2:(m.k !=2)=true:=by simp[hk]
  refine CallEx.body (F0:=[(0,.ptr (H.length+5) 0 0)]) func147 rfl ntmps147 results147 rfl kr rfl ?_;refine .e (.f (λK k=>by simp(maxSteps:=9^9) (disch:=omega) only[go_sem,g5,g4,zG,zK,zay,zaD,zaG,zdX,d2];exact k) ?_);refine .t (.e ?_);refine .ret ⟨_,rfl,.inl ?_⟩;rw[<-hres];exact⟨rfl,rfl⟩
 rw[gD hk]at hres;have d2:(m.k !=2)=false:=by simp[hk]
 refine CallEx.body (F0:=[(0,.ptr (H.length+5) 0 0)]) func147 rfl ntmps147 results147 rfl kr rfl ?_;refine .e (.f (λK k=>by simp(maxSteps:=9^9) (disch:=omega) only[go_sem,g5,g4,zG,zK,zay,zaD,zaG,zdX,d2];exact k) ?_);refine .us ?_;suffices hrest:∀(m:Mb) (a:Nat),m.lv.length=384->a<=n->zbs c p n 2 0 m s a=res->PW prog _ _ [(0,.ptr (H.length+5) 0 0)] (tG H i p n a X (mB m) (tB s i c (H.length+4) hl)) _ by
  refine .f (λK k=>by simp(maxSteps:=9^9) (disch:=omega) only[go_sem,g5,zG,zK,zrB,zao,qA,qD];refine VCx.call (bo _) rfl ?_;simp(maxSteps:=9^9) (disch:=omega) only[go_sem,g5,zG,zK,zrB,zao,qA,qD];exact k) ?_;cases hbv:bcx c with
  | false=>
   rw[hbv,gC (by decide),Rr.bind_ok]at hres;refine .us ?_;exact .a (hrest m a hml ha hres)
  | true=>
   rw[hbv,gD rfl]at hres;refine .t (.y [i,H.length+4] [(24,[1]),(25,[0]),(29,[1]),(30,[1])] [] [] λK hK=> ?_);simp(maxSteps:=9^9) (disch:=omega) only[go_sem,g5,zG,zK,zay];refine VCj.wr1 (gi a (mB m) (tB s i c (H.length+4) hl)) (λL hL hG=>zgl L (H.length+5) i p n a c s (H.length+4) hl ((hG.out _ (by simp;omega)).trans (g5 _ _ _)) hL ha hn hp) (by simp(maxSteps:=9^9) (disch:=omega) only[go_sem]) (.inl rfl) rfl ?_;rw[si];cases hf:tkF p n a with
   | ok b a1=>
    obtain⟨rfl,h2,_⟩:=zdS hf;rw[hf,Rr.bind_ok,Rr.bind_ok]at hres;simp only[rvF,Rr.at];simp(maxSteps:=9^9) (disch:=omega) only[go_sem,g4,s4,zaD,zaG,zcn,hlen,zkF,zbd];refine hK _ _ ?_;clear hK K;refine .e (.us ?_);exact .a (hrest { m with fp:=b } (a+1) hml om hres)
   | er e a1=>obtain⟨rfl,rfl,h2⟩:=zgS hf;rw[hf,Rr.bind_er,Rr.bind_er]at hres;simp only[rvF,Rr.at];simp(maxSteps:=9^9) (disch:=omega) only[go_sem,g4,s4,zaD,zaG,zcn,hlen,zkF,zbd];refine hK _ _ ?_;clear hK K;refine .e (.t ?_);refine .e (.ret ⟨_,rfl,.inl ?_⟩);rw[<-hres];exact⟨rfl,a1,{ m with fp:=false },s,ha,hml,rfl⟩
 clear hres ha hml hlen;intro m a hml ha hres;have ve:=λm1 s1 a1=>zuP m1 (H.length+4) _ (g4 a1 (mB m1) (tB s1 i c (H.length+4) hl));have vc:=λm1 s1 d k a1 hd hk hml hs ha=>zuT H i p n X c hl hi hX hn hp m1 s1 d k a1 hd hk hml hs ha;have hlen:=zu m hml;refine .f (λK k=>by simp(maxSteps:=9^9) (disch:=omega) only[go_sem,g5,g4,zG,zK,zay,zaD,zaG,zym,hlen,qA,qD];exact k) ?_;refine .l ?_;suffices hl1:∀(d:Nat) (m1:Mb) (s1:St) (a1:Nat),d<=2->SameU m m1->vrS s1->a1<=n->zbs c p n (2 - d) d m1 s1 a1=res->PL prog _ _ [(0,.ptr (H.length+5) 0 0),(40,.agg [.bool m.ua,.bool m.ub]),(41,O J (d:Int))] (tG H i p n a1 X (mB m1) (tB s1 i c (H.length+4) hl)) _ by exact .a (hl1 0 m s a om (.refl m) hs ha hres)
 clear hres ha hlen hs;intro d m1 s1 a1 hd hm1 hs1 ha1 hres;induction hdd:2 - d using qF generalizing d m1 s1 a1 with
 | _ dd ih=>
  refine .round (.e ?_);refine .c (λh=> ?_) (λh=> ?_);rotate_left
  .have h6:d=2:=by grind
   subst h6;refine .exit ?_;simp only[vK,zbs]at hres;refine .e (.ret ⟨_,rfl,.inl ?_⟩);rw[<-hres];exact⟨rfl,rfl⟩
  have h6:d<2:=by grind
  obtain⟨n',hn'⟩:∃ n',2 - d=n'+1:=⟨1 - d,om⟩;rw[hn',zbs]at hres;have hnx:=λm1 s1 a1=>ih (2 - (d+1)) om (d+1) m1 s1 a1 om;rw[show 2 - (d+1)=n' from om]at hnx;have hus:([.bool m.ua,.bool m.ub]:List PV)[d]? =some (.bool (usd m1 d)):=by have:d=0\/d=1:=om;unfold usd;rw[hm1.2.1,hm1.2.2.1];grind
  have hdr:zdY c p n m1 s1 d a1=if usd m1 d then zaS c p n d (nvM m1) 0 m1 s1 a1 else .ok (m1,s1) a1:=rfl
  rw[hdr]at hres;refine .skip (.b ?_);refine .g hus ?_;refine .e ?_;cases hu:usd m1 d with
  | false=>
   rw[hu,gC (by decide),Rr.bind_ok]at hres;refine .t (.exit ?_);refine .e ?_;exact .a (hnx m1 s1 a1 hm1 hs1 ha1 hres rfl)
  | true=>
   rw[hu,gD rfl]at hres;refine .us ?_;have vo:=ve m1 s1 a1;have env:(if m1.fp then(2:Int)else 1)=((nvM m:Nat):Int):=by unfold nvM;rw[hm1.2.2.2.1];cases m.fp<;>rfl
   have env2:nvM m1=nvM m:=by unfold nvM;rw[hm1.2.2.2.1]
   rw[env]at vo;rw[env2]at hres;refine .f (λK k=>by simp(maxSteps:=9^9) (disch:=omega) only[go_sem,g5,zG,zK,zay];refine VCx.call (vo) rfl ?_;simp(maxSteps:=9^9) (disch:=omega) only[go_sem,g5,zG,zK,zay];exact k) ?_;refine .l ?_;suffices hl2:∀(k:Nat) (m2:Mb) (s2:St) (a2:Nat),k<=nvM m->SameU m m2->vrS s2->a2<=n->((zaS c p n d (nvM m - k) k m2 s2 a2).bind λx a1=>zbs c p n n' (d+1) x.1 x.2 a1)=res->
     PL prog _ _ [(0,.ptr (H.length+5) 0 0),(3,O J (d:Int)),(40,.agg [.bool m.ua,.bool m.ub]),(41,O J (d:Int)),(51,O J (nvM m:Int)),(52,O J (k:Int))] (tG H i p n a2 X (mB m2) (tB s2 i c (H.length+4) hl)) _ by
    exact .a (hl2 0 m1 s1 a1 om hm1 hs1 ha1 hres)
   clear ih hres hs1 ha1 vo hdr hu hus env env2 hm1;have hnv:=zwZ m;intro k m2 s2 a2 hk2 hm2 hs2 ha2 hres;induction hkk:nvM m - k using qF generalizing k m2 s2 a2 with
   | _ kk ih2=>
    refine .round (.e ?_);refine .c (λh=> ?_) (λh=> ?_);rotate_left
    .have h7:k=nvM m:=by grind
     subst h7;refine .exit ?_;simp only[vK,zaS,Rr.bind_ok]at hres;refine .e ?_;exact .a (hnx m2 s2 a2 hm2 hs2 ha2 hres rfl)
    have h7:k<nvM m:=by grind
    obtain⟨n2,hn2⟩:∃ n2,nvM m - k=n2+1:=⟨nvM m - k - 1,om⟩;rw[hn2,zaS,Rr.bind_bind]at hres;have hnx2:=λm1 s1 a1=>ih2 (nvM m - (k+1)) om (k+1) m1 s1 a1 om;rw[show nvM m - (k+1)=n2 from om]at hnx2;clear ih2;have v1:=vc m2 s2 d k a2 h6 om (by rw[hm2.1];exact hml) hs2 ha2;refine .skip (.b ?_);refine .e (.x λK hK=> ?_);simp(maxSteps:=9^9) (disch:=omega) only[go_sem];refine VCx.callR v1 rfl λv H' hR=> ?_;cases hv:zc1 c p n m2 s2 d k a2 with
    | er e a3=>
     rw[hv]at hR hres;obtain⟨rfl,a4,m4,s4',h1,h2,rfl⟩:=hR;rw[Rr.bind_er]at hres;have d0:((e:Int)+1 !=0)=true:=by simp;omega
     simp(maxSteps:=9^9) (disch:=omega) only[go_sem,ecd];refine hK _ _ ?_;clear hK K;refine .g d0 ?_;refine .t (.e ?_);refine .ret ⟨_,rfl,.inl ?_⟩;rw[<-hres];exact⟨rfl,a4,m4,s4',h1,h2,rfl⟩
    | ok y a3=>obtain⟨b1,b2,b3⟩:=zrm hv ha2 hs2;rw[hv]at hR hres;obtain⟨rfl,rfl⟩:=hR;rw[Rr.bind_ok]at hres;simp(maxSteps:=9^9) (disch:=omega) only[go_sem];refine hK _ _ ?_;clear hK K;refine .e (.us ?_);refine .e ?_;exact .a (hnx2 y.1 y.2 a3 (hm2.trans b2) b3 b1 hres rfl)
end
end Sc
namespace Sc
open Pm Ty Go.RowKit
theorem zkG(m:Mb)(x:Int):(mbc m).set 17 (O J x)=mbc { m with dl:=x }:=rfl
theorem zw3(m:Mb):(mbc m)[17]? =some (O J m.dl):=rfl
theorem zxQ(s:St)(w:Nat)(c:Cx)(mi:Nat)(hl:Bool):(tC s w c mi hl)[0]? =some (O J s.q):=rfl
theorem zzC(s:St)(w:Nat)(c:Cx)(mi:Nat)(hl:Bool)(x:Int):(tC s w c mi hl).set 0 (O J x)=tC { s with q:=x } w c mi hl:=rfl
theorem zs2(m:Mb)(n:Nat)(b:Bool)(hn:n<6):(mbc m).set (18+n) (.bool b)=mbc (zcf m n b):=by have:n=0\/n=1\/n=2\/n=3\/n=4\/n=5:=om;rcases this with rfl|rfl|rfl|rfl|rfl|rfl<;>rfl
theorem zed(m:Mb)(n:Nat)(b:Bool):(zcf m n b).lv=m.lv:=by grind[zcf]
theorem zs6(m:Mb):qB 6 (qE 18 (mbc m))=fs (cdl m):=rfl
theorem zAo(a b c d e f:Bool):zdF prog .eql 138 (.agg [.bool a,.bool b,.bool c,.bool d,.bool e,.bool f]) (.agg [.bool false,.bool false,.bool false,.bool false,.bool false,.bool false])=some (.bool ((a==false)&&((b==false)&&((c==false)&&((d==false)&&((e==false)&&((f==false)&&true))))))):=kr
theorem zAp(m:Mb):zdF prog .eql 138 (.agg (fs (cdl m))) (.agg [.bool false,.bool false,.bool false,.bool false,.bool false,.bool false])=some (.bool !zg7 m):=by simp_all[zAo,fs,cdl,zg7]
section
variable (H:za) (i:Nat) (p:List UInt8) (n:Nat) (X:za) (c:Cx) (hl:Bool) (hi:i<H.length) (hX:X.length=4) (hn:n<=8 * p.length) (hp:p.length<=100000000)
include hi hX hn hp
theorem zu2(m:Mb)(s:St)(a:Nat)(hml:m.lv.length=384)(hq:1<=s.q/\s.q<=31)(ha:a<=n):CallEx prog 148 [.ptr (H.length+5) 0 0] (tG H i p n a X (mB m) (tB s i c (H.length+4) hl)) (zqk H i p n X c hl (zbO c p n hl m s a)):=by
 have g5:=λa B4 B5=>zkc H i p n a X B4 B5 hX;have g4:=λa B4 B5=>zlL H i p n a X B4 B5 hX;have s5:=λa B4 B5 B=>zhZ H i p n a X B4 B5 hX B;have s4:=λa B4 B5 B=>zh0 H i p n a X B4 B5 hX B;have gi:=λa B4 B5=>znj H i p n a X B4 B5 hi;have si:=λa B4 B5 a'=>zhY H i p n a X B4 B5 hi a';have hlen:=zu m hml;have bo:=λK=>zle c K;have qo:=λx K=>zwE x K;generalize hres:zbO c p n hl m s a=res;unfold zbO at hres;refine CallEx.body (F0:=[(0,.ptr (H.length+5) 0 0)]) func148 rfl ntmps148 results148 rfl kr rfl ?_;refine .e ?_;cases hhl:hl with
 | false=>
  subst hhl;rw[gC (by decide)]at hres;refine .f (λK k=>by simp(maxSteps:=9^9) (disch:=omega) only[go_sem,g5,zG,zK,zlM];exact k) ?_;refine .t (.e ?_);refine .ret ⟨_,rfl,.inl ?_⟩;rw[<-hres];exact⟨rfl,rfl⟩
 | true=>
  subst hhl;rw[gD rfl]at hres;refine .f (λK k=>by simp(maxSteps:=9^9) (disch:=omega) only[go_sem,g5,zG,zK,zlM];exact k) ?_;refine .us ?_;suffices hrest:∀(m:Mb) (a:Nat),m.lv.length=384->a<=n->((tkS p n a).bind λd a2=>if vqB (s.q+d)then .ok ({ m with dl:=d },{ s with q:=s.q+d }) a2 else .er 2 a2)=res->PW prog _ _ [(0,.ptr (H.length+5) 0 0)] (tG H i p n a X (mB m) (tB s i c (H.length+4) true)) _ by
   refine .f (λK k=>by simp(maxSteps:=9^9) (disch:=omega) only[go_sem,g5,zG,zK,zrB,zao,qA,qD];refine VCx.call (bo _) rfl ?_;simp(maxSteps:=9^9) (disch:=omega) only[go_sem,g5,zG,zK,zrB,zao,qA,qD];exact k) ?_;cases hbv:bcx c with
   | false=>
    rw[hbv,gC (by decide),Rr.bind_ok]at hres;refine .us ?_;exact .a (hrest m a hml ha hres)
   | true=>
    rw[hbv,gD rfl]at hres;refine .t (.y [i,H.length+4] [(17,[1]),(18,[0]),(22,[1]),(23,[1])] [] [] λK hK=> ?_);simp(maxSteps:=9^9) (disch:=omega) only[go_sem,g5,zG,zK,zay];refine VCj.wr1 (gi a (mB m) (tB s i c (H.length+4) true)) (λL hL hG=>zgl L (H.length+5) i p n a c s (H.length+4) true ((hG.out _ (by simp;omega)).trans (g5 _ _ _)) hL ha hn hp) (by simp(maxSteps:=9^9) (disch:=omega) only[go_sem]) (.inl rfl) rfl ?_;rw[si];cases hf:tkF p n a with
    | ok b a1=>
     obtain⟨rfl,h2,_⟩:=zdS hf;rw[hf,Rr.bind_ok,Rr.bind_ok]at hres;simp only[rvF,Rr.at];simp(maxSteps:=9^9) (disch:=omega) only[go_sem,g4,s4,zaD,zaG,zcn,hlen,zkH,zbd];refine hK _ _ ?_;clear hK K;refine .e (.us ?_);exact .a (hrest { m with fd:=b } (a+1) hml om hres)
    | er e a1=>obtain⟨rfl,rfl,h2⟩:=zgS hf;rw[hf,Rr.bind_er,Rr.bind_er]at hres;simp only[rvF,Rr.at];simp(maxSteps:=9^9) (disch:=omega) only[go_sem,g4,s4,zaD,zaG,zcn,hlen,zkH,zbd];refine hK _ _ ?_;clear hK K;refine .e (.t ?_);refine .e (.ret ⟨_,rfl,.inl ?_⟩);rw[<-hres];exact⟨rfl,a1,{ m with fd:=false },s,ha,hml,rfl⟩
  clear hres ha hml hlen;intro m a hml ha hres;have hlen:=zu m hml;refine .y [i,H.length+4] [(31,[1]),(35,[0]),(39,[1]),(40,[1])] [] [] λK hK=> ?_;simp(maxSteps:=9^9) (disch:=omega) only[go_sem,g5,zG,zK,zay,zc2];refine VCj.wr1 (gi a (mB m) (tB s i c (H.length+4) true)) (λL hL hG=>zj5 i p n a L hL ha hn hp) (by simp(maxSteps:=9^9) (disch:=omega) only[go_sem]) (.inl rfl) rfl ?_;rw[si];cases h1:tkS p n a with
  | er e a1=>
   have he:=zft h1;rw[h1,Rr.bind_er]at hres;simp only[rvS,Rr.at];have d0:((e:Int)+1 !=0)=true:=by simp;omega
   simp(maxSteps:=9^9) (disch:=omega) only[go_sem,g4,s4,zaD,zaG,zcn,hlen,zkG,zbd];refine hK _ _ ?_;clear hK K;refine .g d0 ?_;refine .t (.e ?_);refine .ret ⟨_,rfl,.inl ?_⟩;rw[<-hres];exact⟨rfl,a1,{ m with dl:=0 },s,om,hml,rfl⟩
  | ok d a1=>
   have hb:=zcS h1 ha;rw[h1,Rr.bind_ok]at hres;simp only[rvS,Rr.at];simp(maxSteps:=9^9) (disch:=omega) only[go_sem,g4,s4,zaD,zaG,zcn,hlen,zkG,zbd];refine hK _ _ ?_;clear hK K;refine .e (.us ?_);(repeat refine .seq ?_);refine .drawt [] [] mix kr λK hK=> ?_;simp(maxSteps:=9^9) (disch:=omega) only[go_sem,g5,g4,s5,zG,zK,zfd,zay,zxQ,zzC,zao,zcv,zaD,zaG,zw3];refine hK _ _ ?_;clear hK K;have qo1:=λK=>qo (s.q+d) K;cases hv:vqB (s.q+d)with
   | false=>
    rw[hv]at qo1 hres;rw[gC (by decide)]at hres;refine .x λK hK=> ?_;simp(maxSteps:=9^9) (disch:=omega) only[go_sem,g5,zG,zK,zxQ];refine VCx.call (qo1 _) rfl ?_;simp(maxSteps:=9^9) (disch:=omega) only[go_sem];refine hK _ _ ?_;clear hK K;refine .t (.e ?_);refine .ret ⟨_,rfl,.inl ?_⟩;rw[<-hres];exact⟨rfl,a1,{ m with dl:=d },{ s with q:=s.q+d },hb.2.2,hml,rfl⟩
   | true=>rw[hv]at qo1 hres;rw[gD rfl]at hres;refine .x λK hK=> ?_;simp(maxSteps:=9^9) (disch:=omega) only[go_sem,g5,zG,zK,zxQ];refine VCx.call (qo1 _) rfl ?_;simp(maxSteps:=9^9) (disch:=omega) only[go_sem];refine hK _ _ ?_;clear hK K;refine .us (.e ?_);refine .ret ⟨_,rfl,.inl ?_⟩;rw[<-hres];exact⟨rfl,rfl⟩
theorem zu1(m:Mb)(s:St)(a:Nat)(hml:m.lv.length=384)(ha:a<=n):CallEx prog 149 [.ptr (H.length+5) 0 0] (tG H i p n a X (mB m) (tB s i c (H.length+4) hl)) (zqk H i p n X c hl ((zbL p n hl m a).bind λm a=>.ok (m,s) a)):=by
 have g5:=λa B4 B5=>zkc H i p n a X B4 B5 hX;have g4:=λa B4 B5=>zlL H i p n a X B4 B5 hX;have s5:=λa B4 B5 B=>zhZ H i p n a X B4 B5 hX B;have s4:=λa B4 B5 B=>zh0 H i p n a X B4 B5 hX B;have gi:=λa B4 B5=>znj H i p n a X B4 B5 hi;have si:=λa B4 B5 a'=>zhY H i p n a X B4 B5 hi a';have hlen:=fun(m:Mb) (h:m.lv.length=384)=>zu m h;generalize hres:(zbL p n hl m a).bind (λm a=>Rr.ok (m,s) a)=res;unfold zbL at hres;refine CallEx.body (F0:=[(0,.ptr (H.length+5) 0 0)]) func149 rfl ntmps149 results149 rfl kr rfl ?_;refine .e ?_;by_cases hk:m.k=2;rotate_left
 .have d2:(m.k !=2)=true:=by simp[hk]
  rw[gW hk,vB,gC (by decide),Rr.bind_ok]at hres;refine .f (λK k=>by simp(maxSteps:=9^9) (disch:=omega) only[go_sem,g5,g4,zG,zK,zay,zlM,zaD,zaG,zdX,d2];exact k) ?_;refine .t (.e ?_);refine .ret ⟨_,rfl,.inl ?_⟩;rw[<-hres];exact⟨rfl,rfl⟩
 have d2:(m.k !=2)=false:=by simp[hk]
 rw[gX hk,uP]at hres;cases hhl:hl with
 | false=>
  subst hhl;rw[gC (by decide),Rr.bind_ok]at hres;refine .f (λK k=>by simp(maxSteps:=9^9) (disch:=omega) only[go_sem,g5,g4,zG,zK,zay,zlM,zaD,zaG,zdX,d2];exact k) ?_;refine .t (.e ?_);refine .ret ⟨_,rfl,.inl ?_⟩;rw[<-hres];exact⟨rfl,rfl⟩
 | true=>
  subst hhl;rw[gD rfl]at hres;refine .f (λK k=>by simp(maxSteps:=9^9) (disch:=omega) only[go_sem,g5,g4,zG,zK,zay,zlM,zaD,zaG,zdX,d2];exact k) ?_;refine .us (.e ?_);refine .l ?_;suffices hl1:∀(k:Nat) (m1:Mb) (a1:Nat),k<=6->m1.lv.length=384->a1<=n->((zc9 p n (6 - k) m1 a1).bind λm a=>Rr.ok (m,s) a)=res->PL prog _ _ [(0,.ptr (H.length+5) 0 0),(19,O J (k:Int))] (tG H i p n a1 X (mB m1) (tB s i c (H.length+4) true)) _ by exact .a (hl1 0 m a om hml ha hres)
  clear hres hk d2 hml ha;intro k m1 a1 hk6 hml ha hres;induction hd:6 - k using qF generalizing k m1 a1 with
  | _ d ih=>
   refine .round (.e ?_);refine .c (λh=> ?_) (λh=> ?_);rotate_left
   .have h6:k=6:=by grind
    subst h6;refine .exit ?_;have hlm:=hlen m1 hml;have e6:=zAp m1;simp only[vK,zc9]at hres;cases hac:zg7 m1 with
    | true=>
     rw[hac,gD rfl,Rr.bind_ok]at hres;rw[hac]at e6;refine .f (λK k=>by simp(maxSteps:=9^9) (disch:=omega) only[go_sem,g5,g4,zG,zK,zay,zaD,zaG,zs6,hlm,↓e6,qA,qD];exact k) ?_;refine .us (.e ?_);refine .ret ⟨_,rfl,.inl ?_⟩;rw[<-hres];exact⟨rfl,rfl⟩
    | false=>rw[hac,gC (by decide),Rr.bind_er]at hres;rw[hac]at e6;refine .f (λK k=>by simp(maxSteps:=9^9) (disch:=omega) only[go_sem,g5,g4,zG,zK,zay,zaD,zaG,zs6,hlm,↓e6,qA,qD];exact k) ?_;refine .t (.e ?_);refine .ret ⟨_,rfl,.inl ?_⟩;rw[<-hres];exact⟨rfl,a1,m1,s,ha,hml,rfl⟩
   have h6:k<6:=by grind
   obtain⟨n',hn'⟩:∃ n',6 - k=n'+1:=⟨5 - k,om⟩;have hkn:5 - n'=k:=om;rw[hn',zc9,hkn,Rr.bind_bind]at hres;have hnx:=λm1 a1=>ih (6 - (k+1)) om (k+1) m1 a1 om;rw[show 6 - (k+1)=n' from om]at hnx;have hlm:=hlen m1 hml;have hst:=λb=>zs2 m1 k b h6;refine .skip (.b ?_);refine .e (.y [i,H.length+4] [(26,[1]),(28,[0]),(32,[1]),(33,[1]),(34,[1])] [] [] λK hK=> ?_);simp(maxSteps:=9^9) (disch:=omega) only[go_sem,g5,zG,zK,zay];refine VCj.wr1 (gi a1 (mB m1) (tB s i c (H.length+4) true)) (λL hL hG=>zgl L (H.length+5) i p n a1 c s (H.length+4) true ((hG.out _ (by simp;omega)).trans (g5 _ _ _)) hL ha hn hp) (by simp(maxSteps:=9^9) (disch:=omega) only[go_sem]) (.inl rfl) rfl ?_;rw[si];cases hf:tkF p n a1 with
   | ok b a2=>
    obtain⟨rfl,h2,_⟩:=zdS hf;rw[hf,Rr.bind_ok]at hres;simp only[rvF,Rr.at];simp(maxSteps:=9^9) (disch:=omega) only[go_sem,g4,s4,zaD,zaG,zcn,hlm,hst,zbd];refine hK _ _ ?_;refine .e (.us ?_);refine .e ?_;exact .a (hnx (zcf m1 k b) (a1+1) (by rw[zed];exact hml) om hres rfl)
   | er e a2=>obtain⟨rfl,rfl,h2⟩:=zgS hf;rw[hf,Rr.bind_er]at hres;simp only[rvF,Rr.at];simp(maxSteps:=9^9) (disch:=omega) only[go_sem,g4,s4,zaD,zaG,zcn,hlm,hst,zbd];refine hK _ _ ?_;refine .e (.t ?_);refine .e (.ret ⟨_,rfl,.inl ?_⟩);rw[<-hres];exact⟨rfl,a2,zcf m1 k false,s,ha,by rw[zed];exact hml,rfl⟩
end
end Sc
namespace Sc
open Pm Ty Go.RowKit
def hdM(m:Mb):List PV:=[O J m.k,.bool m.ua,.bool m.ub,.bool m.fp,.bool m.fd,O J m.va,O J m.vb,O J m.vc,O J m.vd,O J m.ve,O J m.vf,O J m.vg,O J m.vh,O J m.sa,O J m.sb,O J m.sc,O J m.sd,O J m.dl,.bool m.ca,.bool m.cb,.bool m.cc,.bool m.cd,.bool m.ce,.bool m.cf]
theorem zfQ(m:Mb):mbc m=hdM m++is m.lv:=rfl
theorem zfW(m:Mb):(hdM m).length=24:=rfl
theorem zyo(m:Mb)(x:Nat):qB (24+x) (mbc m)=hdM m++is (m.lv.take x):=by rw[zfQ,mA,zfW,gH (by rw[zfW];omega),show 24+x - 24=x from om,zdK]
theorem zs5(m:Mb)(x:Nat):qE (24+x) (mbc m)=is (m.lv.drop x):=by simp_all[zfQ,rL,zfW,uB,zeR]
theorem zU(m:Mb)(k:Nat)(l:List Int)(hk:k<6)(hl:l.length=64)(hm:m.lv.length=384):(zaF m k l).lv.length=384:=by grind[zaF,List.length_append,List.length_take,List.length_drop]
theorem znT(m:Mb)(k:Nat)(l:List Int):qB (24+k * 64) (mbc m)++(is l++qE (24+k * 64+64) (mbc m))=mbc (zaF m k l):=by rw[zyo,show 24+k * 64+64=24+(k * 64+64)from om,zs5,zfQ];show _=hdM m++is (m.lv.take (k * 64)++l++m.lv.drop (k * 64+64));simp_all[zqx,gU]
theorem zs3(m:Mb)(k:Nat)(l:List Int)(hk:k<6)(hl:l.length=64)(hm:m.lv.length=384):qB 64 (qE (24+k * 64) (mbc (zaF m k l)))=is l:=by grind[zs5,zdK,List.length_take,zaF,List.append_assoc,List.drop_left',List.take_left']
theorem znU(m:Mb)(k:Nat)(l:List Int)(d:Int)(hk:k<6)(hl:l.length=64)(hm:m.lv.length=384):(mbc (zaF m k l)).set (24+k * 64) (O J d)=mbc (zaF m k (l.set 0 d)):=by
 have h1:(m.lv.take (k * 64)).length=k * 64:=by grind
 rw[zfQ,zfQ,uC _ _ (by rw[zfW];omega),zfW,show 24+k * 64 - 24=k * 64 from om,zaB];simp_all[hdM,zaF,gU,uC,vK,uL]
theorem tC_d(s:St)(w:Nat)(c:Cx)(mi:Nat)(hl:Bool)(q:Nat)(h:q<3):(tC s w c mi hl)[1+q]? =some (O J (dcS s q)):=by have:q=0\/q=1\/q=2:=om;rcases this with rfl|rfl|rfl<;>rfl
theorem zzD(s:St)(w:Nat)(c:Cx)(mi:Nat)(hl:Bool)(q:Nat)(h:q<3)(x:Int):(tC s w c mi hl).set (1+q) (O J x)=tC (zdy s q x) w c mi hl:=by have:q=0\/q=1\/q=2:=om;rcases this with rfl|rfl|rfl<;>rfl
theorem zwa(s:St)(q:Nat)(x:Int)(h:q<3):dcS (zdy s q x) q=x:=by have:q=0\/q=1\/q=2:=om;rcases this with rfl|rfl|rfl<;>rfl
theorem zwX(l:List Int)(h:l.length=64):zel (.int .i64) (is l) [O J 0,O J 0,O J 0,O J 0,O J 0,O J 0,O J 0,O J 0,O J 0,O J 0,O J 0,O J 0,O J 0,O J 0,O J 0,O J 0,O J 0,O J 0,O J 0,O J 0,O J 0,O J 0,O J 0,O J 0,O J 0,O J 0,O J 0,O J 0,O J 0,O J 0,O J 0,O J 0,O J 0,O J 0,O J 0,O J 0,O J 0,O J 0,O J 0,O J 0,O J 0,O J 0,O J 0,O J 0,O J 0,O J 0,O J 0,O J 0,O J 0,O J 0,O J 0,O J 0,O J 0,O J 0,O J 0,O J 0,O J 0,O J 0,O J 0,O J 0,O J 0,O J 0,O J 0,O J 0]=some (decide (l=z64)):=by
 have hp:=zfJ .i64 l z64 (by simp[z64,h]);have dz:(l==z64)=decide (l=z64):=by grind
 rw[dz]at hp;exact hp
section
variable (H:za) (i:Nat) (p:List UInt8) (n:Nat) (X:za) (c:Cx) (hl:Bool) (hi:i<H.length) (hX:X.length=4) (hn:n<=8 * p.length) (hp:p.length<=100000000)
include hi hX hn hp
theorem zuV(m:Mb)(s:St)(a:Nat)(hml:m.lv.length=384)(hs:dcR s)(ha:a<=n):CallEx prog 150 [.ptr (H.length+5) 0 0] (tG H i p n a X (mB m) (tB s i c (H.length+4) hl)) (zqk H i p n X c hl (zax p n 6 m s a)):=by
 have g5:=λa B4 B5=>zkc H i p n a X B4 B5 hX;have g4:=λa B4 B5=>zlL H i p n a X B4 B5 hX;have s5:=λa B4 B5 B=>zhZ H i p n a X B4 B5 hX B;have s4:=λa B4 B5 B=>zh0 H i p n a X B4 B5 hX B;have gi:=λa B4 B5=>znj H i p n a X B4 B5 hi;have si:=λa B4 B5 a'=>zhY H i p n a X B4 B5 hi a';have hlen:=fun(m:Mb) (h:m.lv.length=384)=>zu m h;have hfg:=λk (hk:k<6)=>zn4 (cdl m) k hk;have hcl:(fs (cdl m)).length=6:=rfl;have co:=λk hk K=>zyY k K hk;have hzl:z64.length=64:=by simp[z64]
 generalize hres:zax p n 6 m s a=res;have hlm:=hlen m hml;refine CallEx.body (F0:=[(0,.ptr (H.length+5) 0 0)]) func150 rfl ntmps150 results150 rfl kr rfl ?_;refine .e (.f (λK k=>by simp(maxSteps:=9^9) (disch:=omega) only[go_sem,g5,g4,zG,zK,zay,zaD,zaG,zs6,hlm,qA,qD];exact k) ?_);refine .l ?_;suffices hl1:∀(k:Nat) (m1:Mb) (s1:St) (a1:Nat),k<=6->m1.lv.length=384->cdl m1=cdl m->dcR s1->a1<=n->zax p n (6 - k) m1 s1 a1=res->PL prog _ _ [(0,.ptr (H.length+5) 0 0),(13,.agg (fs (cdl m))),(14,O J (k:Int))] (tG H i p n a1 X (mB m1) (tB s1 i c (H.length+4) hl)) _ by exact .a (hl1 0 m s a om hml rfl hs ha hres)
 clear hres hml ha hs hlm;intro k m1 s1 a1 hk6 hml hcd hs ha hres;induction hd:6 - k using qF generalizing k m1 s1 a1 with
 | _ d ih=>
  refine .round (.e ?_);refine .c (λh=> ?_) (λh=> ?_);rotate_left
  .have h6:k=6:=by grind
   subst h6;refine .exit ?_;simp only[vK,zax]at hres;refine .e (.ret ⟨_,rfl,.inl ?_⟩);rw[<-hres];exact⟨rfl,rfl⟩
  have h6:k<6:=by grind
  obtain⟨n',hn'⟩:∃ n',6 - k=n'+1:=⟨5 - k,om⟩;have hkn:5 - n'=k:=om;rw[hn',zax,hkn,hcd]at hres;have hnx:=λm1 s1 a1=>ih (6 - (k+1)) om (k+1) m1 s1 a1 om;rw[show 6 - (k+1)=n' from om]at hnx;have hlm:=hlen m1 hml;have hgx:=hfg k h6;refine .skip (.b ?_);refine .g (nq2 hgx hcl) ?_;generalize zN (cdl m) k=fg at *;refine .e ?_;cases fg with
  | false=>
   rw[gC (by decide)]at hres;refine .t (.exit ?_);refine .e ?_;exact .a (hnx m1 s1 a1 hml hcd hs ha hres rfl)
  | true=>
   rw[gD rfl]at hres;refine .us (.f (λK k=>by simp(maxSteps:=9^9) (disch:=omega) only[go_sem,g5,g4,zG,zK,zay,zaD];exact k) ?_);refine .f (λK k=>by simp(maxSteps:=9^9) (disch:=omega) only[go_sem,g5,g4,zG,zK,zay,zaD,zaG,zdX];exact k) ?_;have hsL:=λm l=>znT m k l;have hq3:k - 3<3:=om;by_cases hk:m1.k=2
   .rw[gD hk]at hres;have d1:(m1.k==2)=true:=by simp[hk]
    have bt:=zmX i p n a1 0 _ (gi a1 (mB m1) (tB s1 i c (H.length+4) hl)) ha hn hp om;rw[si]at bt;rw[d1];refine .t ?_;cases hb:zda p n 0 a1 with
    | er e a2=>
     have hbe:=zlI _ _ _ _ hb ha;rw[hb]at bt hres;simp only[rvB,Rr.at]at bt;rw[Rr.bind_er]at hres;have hil:(is z64).length=64:=by rfl
     have hic:=zq z64;have d0:((e:Int)+1 !=0)=true:=by simp;omega
     have d9:=zU m1 k z64 h6 hzl hml;generalize hZ:is z64=Z at *;refine .f (λK k=>by simp(maxSteps:=9^9) (disch:=omega) only[go_sem,g5,g4,s4,zG,zK,zc2,zaD,zaG,zcn,hlm,hil,hic];refine VCx.call (bt) rfl ?_;simp(maxSteps:=9^9) (disch:=omega) only[go_sem,g5,g4,s4,zG,zK,zc2,zaD,zaG,zcn,hlm,hil,hic];exact k) ?_;rw[<-hZ];simp only[hsL,zbd];refine .g d0 ?_;refine .t (.e ?_);refine .ret ⟨_,rfl,.inl ?_⟩;rw[<-hres];exact⟨rfl,a2,zaF m1 k z64,s1,om,d9,rfl⟩
    | ok l a2=>
     have hbo:=zfv _ _ _ _ hb ha;have hll:l.length=64:=om;rw[hb]at bt hres;simp only[rvB,Rr.at]at bt;rw[Rr.bind_ok]at hres;have hil:(is l).length=64:=by rw[zj,hll]
     have hic:=zq l;have d9:=zU m1 k l h6 hll hml;have hlm9:=hlen _ d9;have hgl:=zs3 m1 k l h6 hll hml;have ez:=zwX l hll;refine .f (λK k=>by simp(maxSteps:=9^9) (disch:=omega) only[go_sem,g5,g4,s4,zG,zK,zc2,zaD,zaG,zcn,hlm,hil,hic];refine VCx.call (bt) rfl ?_;simp(maxSteps:=9^9) (disch:=omega) only[go_sem,g5,g4,s4,zG,zK,zc2,zaD,zaG,zcn,hlm,hil,hic];exact k) ?_;simp only[hsL,zbd];refine .e (.us ?_);by_cases hz:l=z64
     .rw[gD hz]at hres;rw[gX hz]at ez;refine .f (λK k=>by simp(maxSteps:=9^9) (disch:=omega) only[go_sem,g4,zaD,zaG,hlm9,hgl,hil,ez];exact k) ?_;refine .t (.e ?_);refine .ret ⟨_,rfl,.inl ?_⟩;rw[<-hres];exact⟨rfl,a2,zaF m1 k l,s1,hbo.2.1,d9,rfl⟩
     .rw[gC hz]at hres;rw[gW hz]at ez;refine .f (λK k=>by simp(maxSteps:=9^9) (disch:=omega) only[go_sem,g4,zaD,zaG,hlm9,hgl,hil,ez];exact k) ?_;refine .us (.exit ?_);refine .e ?_;exact .a (hnx (zaF m1 k l) s1 a2 d9 hcd hs hbo.2.1 hres rfl)
   .rw[gC hk]at hres;have d1:(m1.k==2)=false:=by simp[hk]
    rw[d1];refine .us ?_;have con:=co k h6;have pdc:=λs=>tC_d s i c (H.length+4) hl (k - 3) hq3;have psd:=λs x=>zzD s i c (H.length+4) hl (k - 3) hq3 x;have hsk:=hs (k - 3);refine .dn λK hK=> ?_;simp(maxSteps:=9^9) (disch:=omega) only[go_sem];refine VCy.call (con _) rfl ?_;simp(maxSteps:=9^9) (disch:=omega) only[go_sem,g5,zG];refine hK _ _ ?_;clear hK K;have td:=zhX H i p n a1 X (mB m1) c s1 hl hi hX ha hn hp (dcS s1 (k - 3)) 4095 om hsk;cases h1:tkD p n (dcS s1 (k - 3)) 4095 a1 with
    | er e a2=>
     have hb:=zru h1 ha;rw[h1]at td hres;simp only[rvS,Rr.at]at td;rw[Rr.bind_er]at hres;have d0:((e:Int)+1 !=0)=true:=by simp;omega
     refine .f (λK k=>by simp(maxSteps:=9^9) (disch:=omega) only[go_sem,g5,zG,zK,pdc,s5,psd,zfd,zcv,zao];refine VCx.call (td) rfl ?_;simp(maxSteps:=9^9) (disch:=omega) only[go_sem,g5,zG,zK,pdc,s5,psd,zfd,zcv,zao];exact k) ?_;refine .g d0 ?_;refine .t (.e ?_);refine .ret ⟨_,rfl,.inl ?_⟩;rw[<-hres];exact⟨rfl,a2,m1,zdy s1 (k - 3) 0,om,hml,rfl⟩
    | ok x a2=>
     have hb:=zhS h1 ha;rw[h1]at td hres;simp only[rvS,Rr.at]at td;rw[Rr.bind_ok]at hres;refine .f (λK k=>by simp(maxSteps:=9^9) (disch:=omega) only[go_sem,g5,zG,zK,pdc,s5,psd,zfd,zcv,zao];refine VCx.call (td) rfl ?_;simp(maxSteps:=9^9) (disch:=omega) only[go_sem,g5,zG,zK,pdc,s5,psd,zfd,zcv,zao];exact k) ?_;refine .e (.us ?_);have hs2:=zpD hs (k - 3) (x:=x) om;have pd2:=pdc (zdy s1 (k - 3) x);rw[zwa _ _ _ hq3]at pd2;have bt:=zmX i p n a2 1 _ (gi a2 (mB m1) (tB (zdy s1 (k - 3) x) i c (H.length+4) hl)) hb.2.2 hn hp om;rw[si]at bt;cases hbk:zda p n 1 a2 with
     | er e a3=>
      have hbe:=zlI _ _ _ _ hbk hb.2.2;rw[hbk]at bt hres;simp only[rvB,Rr.at]at bt;rw[Rr.bind_er]at hres;have hil:(is z64).length=64:=by rfl
      have hic:=zq z64;have d0:((e:Int)+1 !=0)=true:=by simp;omega
      have d9:=zU m1 k z64 h6 hzl hml;generalize hZ:is z64=Z at *;refine .f (λK k=>by simp(maxSteps:=9^9) (disch:=omega) only[go_sem,g5,g4,s4,zG,zK,zc2,zaD,zaG,zcn,hlm,hil,hic];refine VCx.call (bt) rfl ?_;simp(maxSteps:=9^9) (disch:=omega) only[go_sem,g5,g4,s4,zG,zK,zc2,zaD,zaG,zcn,hlm,hil,hic];exact k) ?_;rw[<-hZ];simp only[hsL,zbd];refine .g d0 ?_;refine .t (.e ?_);refine .ret ⟨_,rfl,.inl ?_⟩;rw[<-hres];exact⟨rfl,a3,zaF m1 k z64,zdy s1 (k - 3) x,om,d9,rfl⟩
     | ok l a3=>
      have hbo:=zfv _ _ _ _ hbk hb.2.2;have hll:l.length=64:=om;rw[hbk]at bt hres;simp only[rvB,Rr.at]at bt;rw[Rr.bind_ok]at hres;have hil:(is l).length=64:=by rw[zj,hll]
      have hic:=zq l;have d9:=zU m1 k l h6 hll hml;have hlm9:=hlen _ d9;have hs0:=znU m1 k l x h6 hll hml;have d8:=zU m1 k (l.set 0 x) h6 (by rw[gS];exact hll) hml;refine .f (λK k=>by simp(maxSteps:=9^9) (disch:=omega) only[go_sem,g5,g4,s4,zG,zK,zc2,zaD,zaG,zcn,hlm,hil,hic];refine VCx.call (bt) rfl ?_;simp(maxSteps:=9^9) (disch:=omega) only[go_sem,g5,g4,s4,zG,zK,zc2,zaD,zaG,zcn,hlm,hil,hic];exact k) ?_;simp only[hsL,zbd];refine .e (.us ?_);(repeat refine .seq ?_);refine .drawt [] [] mix kr λK hK=> ?_;simp(maxSteps:=9^9) (disch:=omega) only[go_sem,g5,g4,s4,zG,zK,pd2,zaD,zaG,zcn,hlm9,hs0,zbd];refine hK _ _ ?_;clear hK K;refine .e ?_;exact .a (hnx (zaF m1 k (l.set 0 x)) (zdy s1 (k - 3) x) a3 d8 hcd hs2 hbo.2.1 hres rfl)
end
end Sc
namespace Sc
open Pm Ty Go.RowKit
def zdH(c:Cx)(s:St)(q:List UInt8)(n a:Nat):Rr (Mb×St):=if vcx c&&zgi s then mtk c s q n a else .er 0 a
def rvM:Rr (Mb×St)->PV
 | .ok y _=>.tup [.agg (mbc y.1),.agg (stc y.2),O J 0]
 | .er e _=>.tup [.agg zmv,.agg (stc zSt),ecd e]
def zAc(H:za)(i:Nat)(p:List UInt8)(n:Nat)(x:Rr (Mb×St)):PV->za->Prop:=λv H'=>v=rvM x/\
 match x with
 | .ok _ a=>H'=H.set i (rA p n a)
 | .er _ _=>∃ a,a<=n/\H'=H.set i (rA p n a)
theorem zpb(k:Nat)(m:Mb):∀ x∈mbc m,Scoped k x:=λx hx=>mbl_sc0 k m x hx
where
 mbl_sc0 (n:Nat) (m:Mb):∀ x∈mbc m,Scoped n x:=λx hx=>by simp only[mbc,gM]at hx;rcases hx with rfl|rfl|rfl|rfl|rfl|rfl|rfl|rfl|rfl|rfl|rfl|rfl|rfl|rfl|rfl|rfl|rfl|rfl|rfl|rfl|rfl|rfl|rfl|rfl|hx;all_goals first|exact .int _ _|exact .bool _|exact zae _ _ _ hx
theorem zsb(k:Nat)(x:Rr (Mb×St)):Scoped k (rvM x):=by
 cases x with
 | ok y a=>
  refine .tup (zO λx hx=> ?_);simp only[gM,gL,uA]at hx;rcases hx with rfl|rfl|rfl
  .exact zn (zpb _ _)
  .exact zdv _ _
  .exact .int _ _
 | er e a=>
  refine .tup (zO λx hx=> ?_);simp only[gM,gL,uA]at hx;rcases hx with rfl|rfl|rfl
  .exact zn (zpb _ _)
  .exact zdv _ _
  .exact .int _ _
theorem zjU:zaL prog 142=some zmv:=kr
theorem zdq:zmv.length=408:=zu zMb zW
theorem zfq:zmv.all PV.cell=true:=zcC zMb
theorem zhT{c:Cx}{p:List UInt8}{n:Nat}{hl:Bool}{m:Mb}{s:St}{a:Nat}{y:Mb×St}{a1:Nat}(h:zbO c p n hl m s a= .ok y a1)(ha:a<=n):a1<=n/\y.1.lv=m.lv/\(s.da=y.2.da/\s.db=y.2.db/\s.dc=y.2.dc):=by
 unfold zbO at h;split at h
 .suffices hr:∀(m':Mb) (a':Nat),m'.lv=m.lv->a'<=n->((tkS p n a').bind λd a2=>if vqB (s.q+d)then .ok ({ m' with dl:=d },{ s with q:=s.q+d }) a2 else .er 2 a2)= .ok y a1->a1<=n/\y.1.lv=m.lv/\(s.da=y.2.da/\s.db=y.2.db/\s.dc=y.2.dc) by
   split at h
   .cases hf:tkF p n a with
    | er e a2=>rw[hf]at h;cases h
    | ok b a2=>have:=zdS hf;rw[hf,Rr.bind_ok,Rr.bind_ok]at h;exact hr { m with fd:=b } a2 rfl om h
   grind[Rr.bind_ok]
  intro m' a' hm' ha' h;cases h1:tkS p n a' with
  | er e a2=>rw[h1]at h;cases h
  | ok d a2=>have b1:=zcS h1 ha';grind[Rr.bind_ok]
 grind
theorem zvd(m:Mb)(n:Nat)(b:Bool):(zcf m n b).k=m.k:=by grind[zcf]
theorem zrw{p:List UInt8}{n:Nat}:∀(r:Nat) (m:Mb) (a:Nat) {m':Mb} {a1:Nat},zc9 p n r m a= .ok m' a1->a<=n->a1<=n/\m'.lv=m.lv/\m'.k=m.k
 | 0,m,a,m',a1,h,ha=>by
  grind[zc9]
 | r+1,m,a,m',a1,h,ha=>by
  simp only[zc9]at h;cases hf:tkF p n a with
  | er e a2=>rw[hf]at h;cases h
  | ok b a2=>have hb:=zdS hf;rw[hf,Rr.bind_ok]at h;obtain⟨c1,c2,c3⟩:=zrw r _ _ h om;simp_all[zed,zvd]
theorem zkb{p:List UInt8}{n:Nat}{hl:Bool}{m:Mb}{a:Nat}{m':Mb}{a1:Nat}(h:zbL p n hl m a= .ok m' a1)(ha:a<=n):a1<=n/\m'.lv=m.lv/\m'.k=m.k:=by
 unfold zbL at h;split at h
 .exact zrw _ _ _ h ha
 simp_all
theorem znh{c:Cx}{p:List UInt8}{n:Nat}:∀(r d:Nat) (m:Mb) (s:St) (a:Nat) {y:Mb×St} {a1:Nat},zbs c p n r d m s a= .ok y a1->a<=n->vrS s->a1<=n/\SameU m y.1/\vrS y.2
 | 0,d,m,s,a,y,a1,h,ha,hs=>by
  simp only[zbs]at h;injection h with e1 e2;subst e1 e2;exact⟨ha,.refl m,hs⟩
 | r+1,d,m,s,a,y,a1,h,ha,hs=>by
  simp only[zbs]at h;cases h1:zdY c p n m s d a with
  | er e a2=>rw[h1]at h;cases h
  | ok x a2=>obtain⟨b1,b2,b3⟩:=zxO h1 ha hs;rw[h1,Rr.bind_ok]at h;obtain⟨c1,c2,c3⟩:=znh r (d+1) x.1 x.2 a2 h b1 b3;exact⟨c1,b2.trans c2,c3⟩
theorem zxJ{c:Cx}{p:List UInt8}{n:Nat}{m:Mb}{s:St}{d k a:Nat}{y:Mb×St}{a1:Nat}(h:zc1 c p n m s d k a= .ok y a1):SameQ s y.2:=by
 unfold zc1 at h;suffices hr:∀(m':Mb) (a':Nat),((tkD p n (sXs s d) 63 a').bind λx a2=>(tkD p n (sYs s d) 63 a2).bind λy a3=>.ok (zaE m' d k x y,zbx s d x y) a3)= .ok y a1->SameQ s y.2 by
  split at h
  .cases hf:tkF p n a with
   | er e a2=>rw[hf]at h;cases h
   | ok b a2=>rw[hf,Rr.bind_ok,Rr.bind_ok]at h;exact hr _ _ h
  .rw[Rr.bind_ok]at h;exact hr _ _ h
 intro m' a' h;cases h1:tkD p n (sXs s d) 63 a' with
 | er e a2=>rw[h1]at h;cases h
 | ok x a2=>
  rw[h1,Rr.bind_ok]at h;cases h2:tkD p n (sYs s d) 63 a2 with
  | er e a3=>rw[h2]at h;cases h
  | ok z a3=>grind[Rr.bind_ok,SameQ,zbx]
theorem zrj{c:Cx}{p:List UInt8}{n d:Nat}:∀(r k:Nat) (m:Mb) (s:St) (a:Nat) {y:Mb×St} {a1:Nat},zaS c p n d r k m s a= .ok y a1->SameQ s y.2
 | 0,k,m,s,a,y,a1,h=>by
  simp only[zaS]at h;injection h with e1 e2;subst e1;exact⟨rfl,rfl,rfl,rfl⟩
 | r+1,k,m,s,a,y,a1,h=>by
  simp only[zaS]at h;cases h1:zc1 c p n m s d k a with
  | er e a2=>rw[h1]at h;cases h
  | ok x a2=>rw[h1,Rr.bind_ok]at h;exact(zxJ h1).trans (zrj r (k+1) x.1 x.2 a2 h)
theorem zng{c:Cx}{p:List UInt8}{n:Nat}:∀(r d:Nat) (m:Mb) (s:St) (a:Nat) {y:Mb×St} {a1:Nat},zbs c p n r d m s a= .ok y a1->SameQ s y.2
 | 0,d,m,s,a,y,a1,h=>by
  simp only[zbs]at h;injection h with e1 e2;subst e1;exact⟨rfl,rfl,rfl,rfl⟩
 | r+1,d,m,s,a,y,a1,h=>by
  simp only[zbs]at h;cases h1:zdY c p n m s d a with
  | er e a2=>rw[h1]at h;cases h
  | ok x a2=>
   rw[h1,Rr.bind_ok]at h;refine SameQ.trans ?_ (zng r (d+1) x.1 x.2 a2 h);unfold zdY at h1;split at h1
   .exact zrj _ _ _ _ _ h1
   .injection h1 with e1 e2;subst e1;exact⟨rfl,rfl,rfl,rfl⟩
theorem zj9{c:Cx}{p:List UInt8}{n:Nat}{m:Mb}{s:St}{a:Nat}{y:Mb×St}{a1:Nat}(h:zbr c p n m s a= .ok y a1)(ha:a<=n)(hs:vrS s):a1<=n/\y.1.lv=m.lv/\y.1.k=m.k/\SameQ s y.2:=by
 unfold zbr at h;split at h
 .split at h
  .cases hf:tkF p n a with
   | er e a2=>rw[hf]at h;cases h
   | ok b a2=>have:=zdS hf;rw[hf,Rr.bind_ok,Rr.bind_ok]at h;obtain⟨c1,c2,c3⟩:=znh _ _ _ _ _ h om hs;exact⟨c1,c2.1,c2.2.2.2.2,zng _ _ _ _ _ h⟩
  .rw[Rr.bind_ok]at h;obtain⟨c1,c2,c3⟩:=znh _ _ _ _ _ h ha hs;exact⟨c1,c2.1,c2.2.2.2.2,zng _ _ _ _ _ h⟩
 .injection h with e1 e2;subst e1 e2;exact⟨ha,rfl,rfl,rfl,rfl,rfl,rfl⟩
theorem zka{c:Cx}{p:List UInt8}{n a:Nat}{x:Mb×Bool}{a1:Nat}(h:zb0 c p n a= .ok x a1)(ha:a<=n):a1<=n/\x.1.lv=zl384:=by
 unfold zb0 at h;split at h
 .injection h with e1 e2;subst e1 e2;exact⟨ha,rfl⟩
 .cases hu:tkU p n a with
  | er e a2=>rw[hu]at h;cases h
  | ok v a2=>
   have hb:=zdR hu ha;rw[hu,Rr.bind_ok]at h;generalize (if c.t=2 then 3 else 7:Nat)=last at h;split at h
   .cases h
   .split at h
    .injection h with e1 e2;subst e1 e2;exact⟨hb.2.2,rfl⟩
    .split at h
     .injection h with e1 e2;subst e1 e2;exact⟨hb.2.2,rfl⟩
     .injection h with e1 e2;subst e1 e2;exact⟨hb.2.2,rfl⟩
theorem zfc{p:List UInt8}{n:Nat}:∀(r:Nat) (m:Mb) (s:St) (a:Nat) {y:Mb×St} {a1:Nat},zax p n r m s a= .ok y a1->a<=n->r<=6->m.lv.length=384->a1<=n/\y.1.lv.length=384/\y.1.k=m.k
 | 0,m,s,a,y,a1,h,ha,hr,hm=>by
  grind[zax]
 | r+1,m,s,a,y,a1,h,ha,hr,hm=>by
  have hzl:z64.length=64:=by simp[z64]
  simp only[zax]at h;split at h
  .split at h
   .cases h1:zda p n 0 a with
    | er e a2=>rw[h1]at h;cases h
    | ok l a2=>
     have hb:=zfv _ _ _ _ h1 ha;rw[h1,Rr.bind_ok]at h;split at h
     .cases h
     .exact zfc r (zaF m (5 - r) l) s a2 h hb.2.1 om (zU _ _ _ om (by rw[hb.2.2,hzl]) hm)
   .cases h1:tkD p n (dcS s (5 - r - 3)) 4095 a with
    | er e a2=>rw[h1]at h;cases h
    | ok d a2=>
     have hb:=zhS h1 ha;rw[h1,Rr.bind_ok]at h;cases h2:zda p n 1 a2 with
     | er e a3=>rw[h2]at h;cases h
     | ok l a3=>have hb2:=zfv _ _ _ _ h2 hb.2.2;rw[h2,Rr.bind_ok]at h;exact zfc r (zaF m (5 - r) (l.set 0 d)) _ a3 h hb2.2.1 om (zU _ _ _ om (by rw[gS,hb2.2.2,hzl]) hm)
  .exact zfc r m s a h ha om hm
theorem znf(H:za)(i:Nat)(p:List UInt8)(n a:Nat)(K:za)(x:Rr (Mb×St))(hx:match x with| .ok _ a'=>a=a'| .er _ _=>a<=n):zop H (zAc H i p n x) (rvM x) (H.set i (rA p n a)++K):=
 .inr (.inr λhs=>⟨rvM x,H.set i (rA p n a),by
  cases x with
  | ok y a'=>exact⟨rfl,by rw[show a=a' from hx]⟩
  | er e a'=>exact⟨rfl,a,hx,rfl⟩,by simp,CutH.base (zes _ _ _ _ _ hs),.id (zsb _ _)⟩)
theorem zrq{c:Cx}{p:List UInt8}{n a e a1:Nat}(h:zb0 c p n a= .er e a1)(ha:a<=n):a1<=n:=by
 unfold zb0 at h;split at h
 .cases h
 .cases hu:tkU p n a with
  | er e2 a2=>rw[hu]at h;have:=zgR hu;injection h with h1 h2;omega
  | ok v a2=>have hb:=zdR hu ha;grind[Rr.bind_ok]
theorem zwK(H:za)(i:Nat)(p:List UInt8)(n a:Nat)(X:za)(B4 B5:Blk)(j:Nat)(hX:X.length=4)(hj:j<4):(tG H i p n a X B4 B5)[H.length+j]? =X[j]? :=by simp_all[tG,gN,gS,gK]
theorem zwJ(H:za)(i:Nat)(p:List UInt8)(n a:Nat)(X:za)(B4 B5 B:Blk)(j:Nat)(hX:X.length=4)(hj:j<4):(tG H i p n a X B4 B5).set (H.length+j) B=tG H i p n a (X.set j B) B4 B5:=by simp_all[tG,uC,gS,uL]
def Rk(c:Cx)(q:List UInt8)(n:Nat):Nat->Mb->St->Bool->Nat->Rr (Mb×St)
 | 0,_,s,_,a=>mtk c s q n a
 | 1,m,s,hl,a=>zj8 c q n hl m s a
 | 2,m,s,hl,a=>(zbO c q n hl m s a).bind λz a3=>(zbL q n hl z.1 a3).bind λm a4=>(zax q n 6 m z.2 a4).bind λw a5=>.ok (w.1,aft w.2 w.1.k) a5
 | 3,m,s,hl,a=>(zbL q n hl m a).bind λm a4=>(zax q n 6 m s a4).bind λw a5=>.ok (w.1,aft w.2 w.1.k) a5
 | 4,m,s,_,a=>(zax q n 6 m s a).bind λw a5=>.ok (w.1,aft w.2 w.1.k) a5
 | _,m,s,_,a=>.ok (m,aft s m.k) a
structure Sd(n k:Nat)(m:Mb)(s:St)(hl:Bool)(a:Nat):Prop where
 l:m.lv.length=384
 a:a<=n
 z:k=0->m=zMb/\hl=false
 v:k<=1->vrS s
 q:k<=2->1<=s.q/\s.q<=31
 d:k<=4->dcR s
def prts:List PV:=[.func 146 [] [],.func 147 [] [],.func 148 [] [],.func 149 [] [],.func 150 [] []]
def zz2(H:za)(i:Nat)(p:List UInt8)(n:Nat)(X:za)(c:Cx)(k:Nat)(res:Rr (Mb×St)):PV->za->Prop:=λv H'=>
 (∃ m s hl a,v= O J 0/\Sd n (k+1) m s hl a/\Rk c p n (k+1) m s hl a=res/\H'=tG H i p n a X (mB m) (tB s i c (H.length+4) hl))\/
 (∃ e a0,res= .er e a0/\v=ecd e/\∃ a m s hl,a<=n/\m.lv.length=384/\H'=tG H i p n a X (mB m) (tB s i c (H.length+4) hl))
theorem zku{H:za}{i:Nat}{p:List UInt8}{n:Nat}{X:za}{c:Cx}{k:Nat}{res:Rr (Mb×St)}{hl:Bool}{x:Rr (Mb×St)}(hok:∀ y a,x= .ok y a->Sd n (k+1) y.1 y.2 hl a/\Rk c p n (k+1) y.1 y.2 hl a=res)(her:∀ e a,x= .er e a->∃ a0,res= .er e a0)(v:PV)(H':za)(h:zqk H i p n X c hl x v H'):zz2 H i p n X c k res v H':=by
 cases x with
 | ok y a=>
  obtain⟨h1,h2⟩:=hok y a rfl;exact .inl ⟨y.1,y.2,hl,a,h.1,h1,h2,h.2⟩
 | er e a=>obtain⟨a0,h0⟩:=her e a rfl;obtain⟨h1,a1,m,s,h2,h3,h4⟩:=h;exact .inr ⟨e,a0,h0,h1,a1,m,s,hl,h2,h3,h4⟩
theorem disp(H:za)(i:Nat)(p:List UInt8)(n:Nat)(X:za)(c:Cx)(hi:i<H.length)(hX:X.length=4)(hn:n<=8 * p.length)(hp:p.length<=100000000)(k:Nat)(hk:k<5)(m:Mb)(s:St)(hl:Bool)(a:Nat)(res:Rr (Mb×St))(hS:Sd n k m s hl a)(hR:Rk c p n k m s hl a=res):
  ∃ f,prts[k]? =some (.func f [] [])/\CallEx prog f [.ptr (H.length+5) 0 0] (tG H i p n a X (mB m) (tB s i c (H.length+4) hl)) (zz2 H i p n X c k res):=by
 obtain⟨hl384,ha,hz,hv,hq,hd⟩:=hS;have h5:k=0\/k=1\/k=2\/k=3\/k=4:=om;rcases h5 with rfl|rfl|rfl|rfl|rfl
 .obtain⟨rfl,rfl⟩:=hz rfl;refine⟨_,rfl,(zri H i p n a X c s hi hX ha hn hp).toEx.mono λv H' h=> ?_⟩;obtain⟨rfl,rfl⟩:=h;simp only[Rk,mtk]at hR;cases hk:zb0 c p n a with
  | ok x a1=>
   rw[hk,Rr.bind_ok]at hR;obtain⟨b1,b2⟩:=zka hk ha;exact .inl ⟨x.1,s,x.2,a1,rfl,⟨by rw[b2];exact zW,b1,λe=>om,λ_=>hv om,λ_=>hq om,λ_=>hd om⟩,hR,rfl⟩
  | er e a1=>rw[hk,Rr.bind_er]at hR;refine .inr ⟨e,a1,hR.symm,rfl,a1,zMb,s,false,?_,hl384,rfl⟩;exact zrq hk ha
 .refine⟨_,rfl,(zrg H i p n X c hl hi hX hn hp m s a hl384 (hv om) ha).mono (zku ?_ ?_)⟩
  .intro y a1 h;obtain⟨b1,b2,b3,b4⟩:=zj9 h ha (hv om);simp only[Rk,zj8,h,Rr.bind_ok]at hR;exact⟨⟨by rw[b2];exact hl384,b1,λe=>om,λe=>om,λ_=>by rw[b4.1];exact hq om,λ_=>zmT b4 (hd om)⟩,hR⟩
  .intro e a1 h;simp only[Rk,zj8,h,Rr.bind_er]at hR;exact⟨a1,hR.symm⟩
 .refine⟨_,rfl,(zu2 H i p n X c hl hi hX hn hp m s a hl384 (hq om) ha).mono (zku ?_ ?_)⟩
  .intro y a1 h;obtain⟨b1,b2,b3⟩:=zhT h ha;simp only[Rk,h,Rr.bind_ok]at hR;refine⟨⟨by rw[b2];exact hl384,b1,λe=>om,λe=>om,λe=>om,λ_ j=> ?_⟩,hR⟩;have:=hd om j;unfold dcS at this |-;rw[<-b3.1,<-b3.2.1,<-b3.2.2];exact this
  .intro e a1 h;simp only[Rk,h,Rr.bind_er]at hR;exact⟨a1,hR.symm⟩
 .refine⟨_,rfl,(zu1 H i p n X c hl hi hX hn hp m s a hl384 ha).mono (zku ?_ ?_)⟩
  .intro y a1 h;cases hc:zbL p n hl m a with
   | er e a2=>rw[hc]at h;cases h
   | ok m' a2=>obtain⟨b1,b2,b3⟩:=zkb hc ha;rw[hc,Rr.bind_ok]at h;injection h with e1 e2;subst e1 e2;simp only[Rk,hc,Rr.bind_ok]at hR;exact⟨⟨by rw[b2];exact hl384,b1,λe=>om,λe=>om,λe=>om,λ_=>hd om⟩,hR⟩
  .intro e a1 h;cases hc:zbL p n hl m a with
   | ok m' a2=>rw[hc]at h;cases h
   | er e2 a2=>simp_all[Rk,Rr.bind_er]
 .refine⟨_,rfl,(zuV H i p n X c hl hi hX hn hp m s a hl384 (hd om) ha).mono (zku ?_ ?_)⟩
  .intro y a1 h;obtain⟨b1,b2,b3⟩:=zfc 6 m s a h ha om hl384;simp only[Rk,h,Rr.bind_ok]at hR;exact⟨⟨b2,b1,λe=>om,λe=>om,λe=>om,λe=>om⟩,hR⟩
  .intro e a1 h;simp only[Rk,h,Rr.bind_er]at hR;exact⟨a1,hR.symm⟩
theorem zsX(i:Nat)(p:List UInt8)(n a:Nat)(c:Cx)(s:St)(H:za)(hA:H[i]? =some (rA p n a))(ha:a<=n)(hn:n<=8 * p.length)(hp:p.length<=100000000):
  CallEx prog 87 [.ptr i 0 0,.agg (cxc c),.agg (stc s)] H (zAc H i p n (zdH c s p n a)):=by
 have hi:=(gA.1 hA).1;have hself:=zam hA;have c1:=zew c;have c2:=zlP s;have vo:=λK=>znb c K;have so:=λK=>zuN s K;have tk1:qB 4 (cxc c)=cxc c:=rfl;have tk2:qB 8 (stc s)=stc s:=rfl;have l1:(cxc c).length=4:=rfl;have l2:(stc s).length=8:=rfl;have hx:=λK=>zas (K:=K) hA;have hzl:=zdq;have hzc:=zfq;have tz:qB 408 zmv=zmv:=gH om;have dz:qE 408 zmv=[]:=uB om;have hrv:rA p n a=rA p n a:=rfl;have rv0:∀ a,(rA p n a).ver=0:=λ_=>rfl;generalize hres:zdH c s p n a=res;refine CallEx.body (F0:=[(0,.ptr i 0 0),(1,.agg (cxc c)),(2,.agg (stc s))]) func87 rfl ntmps87 results87 rfl kr rfl ?_;refine .f (λK k=>by simp(disch:=omega) only[go_sem,c1,c2,↓zjU,qA];exact k) ?_;unfold zdH at hres;suffices hrest:PW prog _ _ [(0,.ptr i 0 0),(4,.ptr H.length 0 0),(5,.ptr (H.length+1) 0 0),(6,.ptr (H.length+2) 0 0),(7,.ptr (H.length+3) 0 0),(25,.bool (!(vcx c&&zgi s)))] (H++[⟨145,0,cxc c⟩,⟨188,0,stc s⟩,⟨142,0,zmv⟩,⟨188,0,stc zSt⟩]) _ by
  cases hv:vcx c with
  | false=>
   rw[hv]at vo hrest;refine .x λK hK=> ?_;simp(disch:=omega) only[go_sem,hx,rv0,tk1,l1];refine VCx.call (vo _) rfl ?_;simp(disch:=omega) only[go_sem];refine hK _ _ ?_;clear hK K;exact .a hrest
  | true=>rw[hv]at vo hrest;refine .x λK hK=> ?_;simp(disch:=omega) only[go_sem,hx,rv0,tk1,l1];refine VCx.call (vo _) rfl ?_;simp(disch:=omega) only[go_sem,tk2,l2];refine VCx.call (so _) rfl ?_;simp(disch:=omega) only[go_sem];refine hK _ _ ?_;clear hK K;exact .a hrest
 cases hval:(vcx c&&zgi s)with
 | false=>
  rw[hval,gC (by decide)]at hres;refine .t (.f (λK k=>by simp(disch:=omega) only[go_sem,↓zjU,hzl,hzc,tz,dz,stc];exact k) ?_);refine .w (.tup [.agg zmv,.agg (stc zSt),O J 1]) (nq2 hzl (nq2 tz (nq2 @stc.eq_1 @zSt.eq_1))) ?_;rw[<-hres];have:=znf H i p n a [⟨145,0,cxc c⟩,⟨188,0,stc s⟩,⟨142,0,zmv⟩,⟨188,0,stc zSt⟩] (.er 0 a) ha;rw[hself]at this;exact this
 | true=>
  rw[hval,gD rfl]at hres;rw[gB]at hval;obtain⟨hq,hv,hd⟩:=zlx hval.2;refine .us (.f (λK k=>by simp(disch:=omega) only[go_sem,↓zjU];exact k) ?_);refine .g (nq2 tk1 (nq2 tk2 (nq2 l1 (nq2 l2 (nq2 @cxc.eq_1 @stc.eq_1))))) ?_;obtain⟨X,hXe⟩:∃ X:za,X=[⟨145,0,cxc c⟩,⟨188,0,stc s⟩,⟨142,0,zmv⟩,⟨188,0,stc zSt⟩]:=⟨_,rfl⟩;have hX:X.length=4:=by rw[hXe];rfl
  refine .a (F1:=[(0,.ptr i 0 0),(4,.ptr H.length 0 0),(5,.ptr (H.length+1) 0 0),(6,.ptr (H.length+2) 0 0),(7,.ptr (H.length+3) 0 0),(9,.ptr (H.length+4) 0 0),(10,.ptr (H.length+5) 0 0)]) (H1:=tG H i p n a X (mB zMb) (tB s i c (H.length+4) false)) ?_ rfl (by unfold tG;rw[hself,hXe];rfl);have nf:(pvc Value.nilFunc).cells=[.nl 0]:=rfl;have hS:Sd n 0 zMb s false a:=⟨zW,ha,λ_=>⟨rfl,rfl⟩,λ_=>hv,λ_=>hq,λ_=>hd⟩;refine .g nf ?_;refine .l ?_;suffices hl1:∀(k:Nat) (m:Mb) (s:St) (hl:Bool) (a:Nat),k<=5->Sd n k m s hl a->Rk c p n k m s hl a=res->PL prog _ _ [(6,.ptr (H.length+2) 0 0),(7,.ptr (H.length+3) 0 0),(9,.ptr (H.length+4) 0 0),(10,.ptr (H.length+5) 0 0),(32,.slice prts 5 true),(33,O J 5),(34,O J (k:Int))] (tG H i p n a X (mB m) (tB s i c (H.length+4) hl)) _ by exact .a (hl1 0 zMb s false a om hS hres)
  clear hres hS hv hq hd;have hpl:prts.length=5:=rfl;have gE:∀ m s hl a,(tG H i p n a X (mB m) (tB s i c (H.length+4) hl))[H.length+2]? =some ⟨142,0,zmv⟩/\(tG H i p n a X (mB m) (tB s i c (H.length+4) hl))[H.length+3]? =some ⟨188,0,stc zSt⟩:=λm s hl a=>by simp_all[tG,gN,gS]
  have ao:=λs k K=>zzd s k K;intro k m s hl a hk hS hR;induction hd:5 - k using qF generalizing k m s hl a with
  | _ d ih=>
   refine .round (.e ?_);refine .c (λh=> ?_) (λh=> ?_)
   .have h5:k<5:=by grind
    obtain⟨f,hf,hc⟩:=disp H i p n X c hi hX hn hp k h5 m s hl a res hS hR;refine .skip (.b ?_);refine .g (nq2 hf hpl) ?_;refine .x λK hK=> ?_;simp(disch:=omega) only[go_sem];refine VCx.callR hc rfl λv H' hQ=> ?_;rcases hQ with⟨m',s',hl',a',rfl,hS',hR',rfl⟩|⟨e,a0,hre,rfl,a',m',s',hl',ha',hml',rfl⟩
    .simp(disch:=omega) only[go_sem];refine hK _ _ ?_;clear hK K;refine .e (.us ?_);refine .e ?_;exact .a (ih (5 - (k+1)) om (k+1) m' s' hl' a' om hS' hR' rfl)
    .have d0:((e:Int)+1 !=0)=true:=by simp;omega
     obtain⟨ge1,ge2⟩:=gE m' s' hl' a';have se1:=zam ge1;have se2:=zam ge2;have lst:(stc zSt).length=8:=rfl;simp(disch:=omega) only[go_sem,ecd];refine hK _ _ ?_;clear hK K;refine .g d0 ?_;refine .t (.f (λK k=>by simp(disch:=omega) only[go_sem,↓zjU,ge1,ge2,hzl,hzc,dz,lst,se1];exact k) ?_);refine .a (F1:=[(6,.ptr (H.length+2) 0 0),(7,.ptr (H.length+3) 0 0),(8,O J ((e:Int)+1))]) (H1:=tG H i p n a' X (mB m') (tB s' i c (H.length+4) hl')) ?_ rfl se2;have tst:qB 8 (stc zSt)=stc zSt:=rfl;refine .w (.tup [.agg zmv,.agg (stc zSt),O J ((e:Int)+1)]) (nq2 ge1 (nq2 ge2 (nq2 hzl (nq2 tz (nq2 lst tst))))) ?_;rw[hre];exact znf H i p n a' (X++[mB m',tB s' i c (H.length+4) hl']) (.er e a0) ha'
   .have h5:k=5:=by grind
    subst h5;refine .exit ?_;simp only[Rk]at hR;have ml:=hS.l;have hlm:=zu m ml;have htm:qB 408 (mbc m)=mbc m:=gH om;have hcm:=zcC m;have g5:=λB4 B5=>zkc H i p n a X B4 B5 hX;have g4:=λB4 B5=>zlL H i p n a X B4 B5 hX;obtain⟨ge1,ge2⟩:=gE m s hl a;have gX2:=λY B4 B5 B hY=>zwJ H i p n a Y B4 B5 B 2 hY om;have gX3:=λY B4 B5 B hY=>zwJ H i p n a Y B4 B5 B 3 hY om;have tcs:qB 8 (tC s i c (H.length+4) hl)=stc s:=rfl;have lst:∀ t,(stc t).length=8:=λ_=>rfl;have cst:∀ t,(stc t).all PV.cell=true:=λ_=>rfl;have ao1:=λK=>ao s m.k K;have e3:(tG H i p n a (X.set 2 (mB m)) (mB m) (tB s i c (H.length+4) hl))[H.length+3]? =some ⟨188,0,stc zSt⟩:=by grind
    have hw2:=gX2 X (mB m) (tB s i c (H.length+4) hl) (mB m) hX;have hw3:=gX3 (X.set 2 (mB m)) (mB m) (tB s i c (H.length+4) hl) ⟨188,0,stc (aft s m.k)⟩ (by rw[gS];exact hX);have dst:qE 8 (stc zSt)=[]:=rfl;refine .dn λK hK=> ?_;simp(disch:=omega) only[go_sem,g5,g4,zG,zK,zaD,zaG,zdX,hlm,htm,tcs,zao];refine VCy.call (ao1 _) rfl ?_;simp(disch:=omega) only[go_sem,ge1,ge2,hzl,dz,hlm,hcm,zbd,hw2,e3,lst,cst,dst,hw3];refine hK _ _ ?_;clear hK K;have hX2:((X.set 2 (mB m)).set 3 ⟨188,0,stc (aft s m.k)⟩).length=4:=by rw[gS,gS];exact hX
    have f2:(tG H i p n a ((X.set 2 (mB m)).set 3 ⟨188,0,stc (aft s m.k)⟩) (mB m) (tB s i c (H.length+4) hl))[H.length+2]? =some (mB m):=by rw[zwK _ _ _ _ _ _ _ _ _ hX2 om,hXe];rfl
    have f3:(tG H i p n a ((X.set 2 (mB m)).set 3 ⟨188,0,stc (aft s m.k)⟩) (mB m) (tB s i c (H.length+4) hl))[H.length+3]? =some ⟨188,0,stc (aft s m.k)⟩:=by rw[zwK _ _ _ _ _ _ _ _ _ hX2 om,hXe];rfl
    have tst:∀ t,qB 8 (stc t)=stc t:=λ_=>rfl;refine .ret ⟨.tup [.agg (mbc m),.agg (stc (aft s m.k)),O J 0],by simp(disch:=omega) only[go_sem,zw,zJ,uR,vA,uN,uD,uO,Array.toList,f2,f3,zaD,zaG,hlm,htm,lst,tst],?_⟩;rw[<-hR];exact znf H i p n a (((X.set 2 (mB m)).set 3 ⟨188,0,stc (aft s m.k)⟩)++[mB m,tB s i c (H.length+4) hl]) (.ok (m,aft s m.k) a) rfl
theorem zfg(l:List Mb)(n:Nat):∀ x∈l.flatMap mbc,Scoped n x:=λx hx=>by obtain⟨m,_,hx⟩:=wM.1 hx;simp only[mbc,gM]at hx;rcases hx with rfl|rfl|rfl|rfl|rfl|rfl|rfl|rfl|rfl|rfl|rfl|rfl|rfl|rfl|rfl|rfl|rfl|rfl|rfl|rfl|rfl|rfl|rfl|rfl|hx;all_goals first|exact .int _ _|exact .bool _|exact zae _ _ _ hx
end Sc
end Go.Proofs.YtleejngibkbjnaaGreatDoor
