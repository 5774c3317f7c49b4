/-
  Parts of the proof. No condition.
-/
import Derived.Test.YtdajpjenhcobkaaGreatDoorX22
import Derived.Test.YtdajpjenhcobkaaGreatDoorX17
open Bool renaming and_eq_true → qP
open List renaming length_set → qB, getElem?_append_right → qE, set_append_right → qF, take → qG, drop → qI, take_of_length_le → qK, set_append_left → qM, mem_cons → qN, append_assoc → qO, getElem?_append_left → qQ, drop_of_length_le → qR
open Nat renaming reduceAdd → qD, reduceLeDiff → qH, strongRecOn → qJ, sub_self → qL
open Option renaming bind_eq_bind → qS
open Go.Proofs.Tryz renaming prog → qA
set_option linter.all false
set_option maxRecDepth 100000
set_option maxHeartbeats 32000000
namespace Go.Proofs.YtdajpjenhcobkaaGreatDoor
namespace Sc
open Pm Ty Go.RowKit
def vqB(q:Int):Bool:=decide (1<=q)&&decide (q<=31)
def zfG(s:St):Bool:=(win s.da 4095&&(win s.db 4095&&win s.dc 4095))&&(vqB s.q&&(vrg s.va s.vb&&vrg s.vc s.vd))
theorem zur(q:Int)(H:za):CallOk qA 85 [.int .i64 q] H (.bool (vqB q)) H:=by refine .go Tryz.func85 Tryz.ntmps85 Tryz.results85 ?_;(repeat'(first|refine .seq ?_|((refine .rg rfl λK hK=> ?_);simp(disch:=omega) only[go_sem])|((refine zg ?_ ?_)<;>intro h<;>(try simp only[nqb]at h)<;>simp(disch:=omega) only[go_sem,h])|(refine hK _ _ ?_;clear hK K)));all_goals((refine .ret ⟨_,rfl,?_⟩;refine .inl ⟨?_,rfl⟩);(simp_all[vqB,slot,Nat.beq]<;>omega))
theorem zsK(s:St)(H:za):CallOk qA 136 [.agg (stc s)] H (.bool (zfG s)) H:=by generalize hr:zfG s=r;obtain⟨q,da,db,dc,va,vb,vc,vd⟩:=s;have w1:=λx K=>zfD x 4095 K om;have v1:=λx y K=>zhe x y K;have q1:=λK=>zur q K;refine .body (F0:=[(0,.agg [.int .i64 q,.int .i64 da,.int .i64 db,.int .i64 dc,.int .i64 va,.int .i64 vb,.int .i64 vc,.int .i64 vd])]) Tryz.func136 rfl Tryz.ntmps136 Tryz.results136 rfl kr rfl ?_;(repeat'(first|refine .seq ?_|refine .skip ?_|refine .block ?_|refine .loop ?_|refine .round ?_|refine .exit ?_|((refine .rg rfl λK hK=> ?_);simp(disch:=omega) only[go_sem])|((refine zg ?_ ?_)<;>intro h<;>(try simp only[nqb]at h)<;>simp(disch:=omega) only[go_sem,h])|((first|refine VCx.call (w1 _ _) rfl ?_|refine VCx.call (v1 _ _ _) rfl ?_|refine VCx.call (q1 _) rfl ?_);simp(disch:=omega) only[go_sem])|(refine hK _ _ ?_;clear hK K)|(refine .cond (t:=_) rfl (λh=> ?_) (λh=> ?_)<;>(try(cases h;done))<;>(try simp only[nqb]at h))));all_goals((refine .ret ⟨_,rfl,?_⟩;refine .base (.id' ?_ (.bool _)));subst hr;clear w1 v1 q1;(simp_all[zfG,slot,Nat.beq]))
theorem zsJ(s:St)(H:za):CallOk qA 243 [.agg (stc s)] H (.bool (zfG s)) H:=by generalize hr:zfG s=r;obtain⟨q,da,db,dc,va,vb,vc,vd⟩:=s;have w1:=λx K=>zgC x K;have v1:=λx y K=>zde x y K;refine .body (F0:=[(0,.agg [.int .i64 q,.int .i64 da,.int .i64 db,.int .i64 dc,.int .i64 va,.int .i64 vb,.int .i64 vc,.int .i64 vd])]) Tryz.func243 rfl Tryz.ntmps243 Tryz.results243 rfl kr rfl ?_;(repeat'(first|refine .seq ?_|refine .skip ?_|refine .block ?_|refine .loop ?_|refine .round ?_|refine .exit ?_|((first|refine .rg rfl λK hK=> ?_|refine .draw mix kr λK hK=> ?_);simp(disch:=omega) only[go_sem])|((first|refine zg ?_ ?_|refine zB ?_ ?_|refine And.intro ?_ ?_)<;>intro h<;>(try simp only[nqb]at h)<;>simp(disch:=omega) only[go_sem,h])|((first|refine VCx.call (w1 _ _) rfl ?_|refine VCx.call (v1 _ _ _) rfl ?_|refine VCy.call (w1 _ _) rfl ?_|refine VCy.call (v1 _ _ _) rfl ?_);simp(disch:=omega) only[go_sem])|(refine hK _ _ ?_;clear hK K)|(refine .cond (t:=_) rfl (λh=> ?_) (λh=> ?_)<;>(try(cases h;done))<;>(try simp only[nqb]at h))));all_goals((refine .ret ⟨_,rfl,?_⟩;first|refine .inl ⟨?_,rfl⟩|refine .base (.id' ?_ (.bool _))|refine .base (.id' ?_ (.int _ _)));subst hr;clear w1 v1;(simp_all[zfG,vqB,slot,Nat.beq]<;>first|rfl|omega|(rw[Bool.eq_iff_iff];simp;done)|(rw[Bool.eq_iff_iff];simp;omega)))
def aft(s:St)(k:Int):St:=⟨s.q,if k=1 then s.da else 0,if k=1 then s.db else 0,if k=1 then s.dc else 0,if k=2 then s.va else 0,if k=2 then s.vb else 0,if k=2 then s.vc else 0,if k=2 then s.vd else 0⟩
theorem zwK(s:St)(k:Int)(H:za):CallOk qA 142 [.agg (stc s),.int .i64 k] H (.agg (stc (aft s k))) H:=by
 have hsc:=zdg (aft s k);obtain⟨q,da,db,dc,va,vb,vc,vd⟩:=s;have e0:stc (aft ⟨q,da,db,dc,va,vb,vc,vd⟩ k)=[.int .i64 q,.int .i64 (if k=1 then da else 0),.int .i64 (if k=1 then db else 0),.int .i64 (if k=1 then dc else 0),.int .i64 (if k=2 then va else 0),.int .i64 (if k=2 then vb else 0),.int .i64 (if k=2 then vc else 0),.int .i64 (if k=2 then vd else 0)]:=rfl;rw[e0]at hsc |-;clear e0;refine .body (F0:=[(0,.agg [.int .i64 q,.int .i64 da,.int .i64 db,.int .i64 dc,.int .i64 va,.int .i64 vb,.int .i64 vc,.int .i64 vd]),(1,.int .i64 k)]) Tryz.func142 rfl Tryz.ntmps142 Tryz.results142 rfl kr rfl ?_;by_cases h1:k=1<;>by_cases h2:k=2
 .omega
 .have b1:(k !=1)=false:=by simp[h1]
  have b2:(k !=2)=true:=by simp[h2]
  simp only[if_pos h1,if_neg h2]at hsc |-;(repeat'(first|refine .seq ?_|refine .skip ?_|((refine .rg rfl λK hK=> ?_);simp(disch:=omega) only[go_sem,b1,b2])|(refine hK _ _ ?_;clear hK K)|(refine .cond (t:=_) rfl (λh=> ?_) (λh=> ?_)<;>(try(cases h;done))<;>(try simp only[nqb]at h))));refine .v (.agg [.int .i64 q,.int .i64 da,.int .i64 db,.int .i64 dc,.int .i64 0,.int .i64 0,.int .i64 0,.int .i64 0]) ?_;exact .base (.id (hsc _))
 .have b1:(k !=1)=true:=by simp[h1]
  have b2:(k !=2)=false:=by simp[h2]
  simp only[if_neg h1,if_pos h2]at hsc |-;(repeat'(first|refine .seq ?_|refine .skip ?_|((refine .rg rfl λK hK=> ?_);simp(disch:=omega) only[go_sem,b1,b2])|(refine hK _ _ ?_;clear hK K)|(refine .cond (t:=_) rfl (λh=> ?_) (λh=> ?_)<;>(try(cases h;done))<;>(try simp only[nqb]at h))));refine .v (.agg [.int .i64 q,.int .i64 0,.int .i64 0,.int .i64 0,.int .i64 va,.int .i64 vb,.int .i64 vc,.int .i64 vd]) ?_;exact .base (.id (hsc _))
 .have b1:(k !=1)=true:=by simp[h1]
  have b2:(k !=2)=true:=by simp[h2]
  simp only[if_neg h1,if_neg h2]at hsc |-;(repeat'(first|refine .seq ?_|refine .skip ?_|((refine .rg rfl λK hK=> ?_);simp(disch:=omega) only[go_sem,b1,b2])|(refine hK _ _ ?_;clear hK K)|(refine .cond (t:=_) rfl (λh=> ?_) (λh=> ?_)<;>(try(cases h;done))<;>(try simp only[nqb]at h))));refine .v (.agg [.int .i64 q,.int .i64 0,.int .i64 0,.int .i64 0,.int .i64 0,.int .i64 0,.int .i64 0,.int .i64 0]) ?_;exact .base (.id (hsc _))
theorem zwz(n:Nat)(H:za)(h:n<6):CallOk qA 227 [.int .i64 (n:Int)] H (.int .i64 ((n - 3:Nat):Int)) H:=by refine .go Tryz.func227 Tryz.ntmps227 Tryz.results227 ?_;have h6:n=0\/n=1\/n=2\/n=3\/n=4\/n=5:=om;rcases h6 with rfl|rfl|rfl|rfl|rfl|rfl<;>(repeat'(first|refine .seq ?_|((refine .rg rfl λK hK=> ?_);simp(disch:=omega) only[go_sem])|(refine hK _ _ ?_;clear hK K)));all_goals((refine .ret ⟨_,rfl,?_⟩;refine .inl ⟨?_,rfl⟩);rfl)
theorem zqY(n:Nat)(H:za)(h:n<6):CallOk qA 287 [.int .i64 (n:Int)] H (.int .i64 ((n - 3:Nat):Int)) H:=by refine .go Tryz.func287 Tryz.ntmps287 Tryz.results287 ?_;have h6:n=0\/n=1\/n=2\/n=3\/n=4\/n=5:=om;rcases h6 with rfl|rfl|rfl|rfl|rfl|rfl<;>(repeat'(first|refine .seq ?_|refine .skip ?_|refine .block ?_|((first|refine .rg rfl λK hK=> ?_|refine .draw mix kr λK hK=> ?_);simp(disch:=omega) only[go_sem])|((first|refine zg ?_ ?_|refine zB ?_ ?_|refine And.intro ?_ ?_)<;>intro h<;>(try simp only[nqb]at h)<;>simp(disch:=omega) only[go_sem,h])|(refine hK _ _ ?_;clear hK K)|(refine .cond (t:=_) rfl (λh=> ?_) (λh=> ?_)<;>(try(cases h;done))<;>(try simp only[nqb]at h))));all_goals((refine .ret ⟨_,rfl,?_⟩;first|refine .inl ⟨?_,rfl⟩|refine .base (.id' ?_ (.bool _))|refine .base (.id' ?_ (.int _ _)));rfl)
theorem zsN(m:Mb)(i:Nat)(H:za)(hi:H[i]? =some (mB m)):CallOk qA 223 [.ptr i 0 0] H (.int .i64 (if m.fp then 2 else 1)) H:=by refine .go Tryz.func223 Tryz.ntmps223 Tryz.results223 ?_;(repeat'(first|refine .seq ?_|refine .skip ?_|((refine .rg rfl λK hK=> ?_);simp(disch:=omega) only[go_sem,hi,mB,mbc])|(refine hK _ _ ?_;clear hK K)|(refine .cond (t:=_) rfl (λh=> ?_) (λh=> ?_)<;>(try(cases h;done))<;>(try simp only[nqb]at h))));all_goals((refine .ret ⟨_,rfl,?_⟩;refine .inl ⟨?_,rfl⟩);simp_all[slot,Nat.beq])
section
variable (H:za) (i j:Nat) (M:List Bool) (x0 x1 x3:Blk) (c:Cx) (m:Mb) (s:St)
end
end Sc
namespace Sc
open Pm Ty Go.RowKit
def vXm(m:Mb)(d k:Nat):Int:=if d=0 then(if k=0 then m.va else m.vc)else(if k=0 then m.ve else m.vg)
def vYm(m:Mb)(d k:Nat):Int:=if d=0 then(if k=0 then m.vb else m.vd)else(if k=0 then m.vf else m.vh)
def usd(m:Mb)(d:Nat):Bool:=if d=0 then m.ua else m.ub
def sXs(s:St)(d:Nat):Int:=if d=0 then s.va else s.vc
def sYs(s:St)(d:Nat):Int:=if d=0 then s.vb else s.vd
def zbr(s:St)(d:Nat)(x y:Int):St:=if d=0 then⟨s.q,s.da,s.db,s.dc,x,y,s.vc,s.vd⟩else⟨s.q,s.da,s.db,s.dc,s.va,s.vb,x,y⟩
def nvM(m:Mb):Nat:=if m.fp then 2 else 1
def vrM(m:Mb):Prop:=∀ d k,(-63<=vXm m d k/\vXm m d k<=63)/\(-63<=vYm m d k/\vYm m d k<=63)
def vrS(s:St):Prop:=∀ d,(-63<=sXs s d/\sXs s d<=63)/\(-63<=sYs s d/\sYs s d<=63)
theorem zuL(m:Mb):nvM m<=2/\1<=nvM m:=by unfold nvM;split<;>omega
section
variable (H:za) (i j:Nat) (M:List Bool) (x0 x1 x3:Blk) (c:Cx) (m:Mb) (s:St) (K:za)
end
end Sc
namespace Sc
open Pm Ty Go.RowKit
def dcS(s:St)(k:Nat):Int:=if k=0 then s.da else if k=1 then s.db else s.dc
def zdi(s:St)(k:Nat)(x:Int):St:=if k=0 then⟨s.q,x,s.db,s.dc,s.va,s.vb,s.vc,s.vd⟩else if k=1 then⟨s.q,s.da,x,s.dc,s.va,s.vb,s.vc,s.vd⟩else⟨s.q,s.da,s.db,x,s.va,s.vb,s.vc,s.vd⟩
def lrM(m:Mb):Prop:=∀ q,q<384->win (ze m.lv q) 4095=true
def dcR(s:St):Prop:=∀ k,-4095<=dcS s k/\dcS s k<=4095
theorem znZ{s:St}(h:dcR s)(k:Nat){x:Int}(hx: -4095<=x/\x<=4095):dcR (zdi s k x):=λe=>by
 have h0: -4095<=s.da/\s.da<=4095:=h 0;have h1: -4095<=s.db/\s.db<=4095:=h 1;have h2: -4095<=s.dc/\s.dc<=4095:=h 2;unfold zdi;split
 .unfold dcS;dsimp only;split;exact hx;split;exact h1;exact h2
 .split
  .unfold dcS;dsimp only;split;exact h0;split;exact hx;exact h2
  .unfold dcS;dsimp only;split;exact h0;split;exact h1;exact hx
def zSt:St:=⟨0,0,0,0,0,0,0,0⟩
theorem zps{lv:List Int}{n j:Nat}(h:zbk lv n=true)(hj:j<64):ze lv (n * 64+j)=0:=by
 have e:=zmY lv n j hj;have hz:(lv.drop (n * 64)).take 64=List.replicate 64 0:=by simpa[zbk]using h
 rw[hz]at e;rw[<-e];rw[ze,List.getD_eq_getElem?_getD,List.getElem?_replicate,if_pos hj];rfl
structure Fmd(c:Cx)(m:Mb):Prop where
 k:m.k=0\/m.k=1\/m.k=2
 v:vrM m
 l:lrM m
 d: -30<=m.dl/\m.dl<=30
 z:m.k=0->m.dl=0/\hlM m=false
 i:m.k=1->cdl m=[true,true,true,true,true,true]
 n:hlM m=false->m.dl=0
theorem zuq{x y:Int}(h:vrg x y=true):(-63<=x/\x<=63)/\(-63<=y/\y<=63):=by simp only[vrg,qP]at h;exact⟨zeX h.1,zeX h.2⟩
theorem zkr{s:St}(h:zfG s=true):(1<=s.q/\s.q<=31)/\vrS s/\dcR s:=by
 simp only[zfG,qP,vqB,decide_eq_true_eq]at h;obtain⟨⟨h1,h2,h3⟩,h4,h5,h6⟩:=h;refine⟨h4,λd=> ?_,λk=> ?_⟩
 .unfold sXs sYs;split
  .exact zuq h5
  .exact zuq h6
 .unfold dcS;split
  .exact zeX h1
  .split
   .exact zeX h2
   .exact zeX h3
def SameQ(s t:St):Prop:=t.q=s.q/\t.da=s.da/\t.db=s.db/\t.dc=s.dc
theorem SameQ.trans{a b c:St}(h:SameQ a b)(k:SameQ b c):SameQ a c:=⟨k.1.trans h.1,k.2.1.trans h.2.1,k.2.2.1.trans h.2.2.1,k.2.2.2.trans h.2.2.2⟩
theorem zlA{s t:St}(h:SameQ s t)(k:dcR s):dcR t:=λe=>by have:=k e;unfold dcS at this |-;rw[h.2.1,h.2.2.1,h.2.2.2];exact this
section
variable (H:za) (i j:Nat) (A B:Blk) (K:za)
end
theorem zO{n:Nat}{xs:List PV}(h:∀ x∈xs,Scoped n x):∀(j:Nat) (x:PV),xs[j]? =some x->Scoped n x:=λj x hx=>h x (List.mem_of_getElem? hx)
theorem zd6(c:Cx):(cxc c).all PV.cell=true:=rfl
theorem zkJ(s:St):(stc s).all PV.cell=true:=rfl
theorem zcu(m:Mb):(mbc m).all PV.cell=true:=by have hall:=zt m.lv;simp[mbc,PV.cell];exact λx hx=>List.all_eq_true.1 hall x hx
end Sc
namespace Sc
open Pm Ty Go.RowKit
def tkF(q:List UInt8)(n a:Nat):Rr Bool:=if a<n then .ok (decide (zag q a=1)) (a+1)else .er 3 a
def tkD(q:List UInt8)(n:Nat)(pr:Int)(most:Nat)(a:Nat):Rr Int:=(tkS q n a).bind λd a1=>if win (pr+d) most then .ok (pr+d) a1 else .er 2 a1
def zdS(m:Mb)(d k:Nat)(x:Int):Mb:=if d=0 then(if k=0 then{ m with sa:=x }else{ m with sb:=x })else(if k=0 then{ m with sc:=x }else{ m with sd:=x })
def zaJ(m:Mb)(d k:Nat)(x y:Int):Mb:=if d=0 then(if k=0 then{ m with va:=x,vb:=y }else{ m with vc:=x,vd:=y })else(if k=0 then{ m with ve:=x,vf:=y }else{ m with vg:=x,vh:=y })
def zca(m:Mb)(n:Nat)(b:Bool):Mb:=if n=0 then{ m with ca:=b }else if n=1 then{ m with cb:=b }else if n=2 then{ m with cc:=b }else if n=3 then{ m with cd:=b }else if n=4 then{ m with ce:=b }else{ m with cf:=b }
def zaK(m:Mb)(n:Nat)(l:List Int):Mb:={ m with lv:=m.lv.take (n * 64)++l++m.lv.drop (n * 64+64) }
def inMb:Mb:=⟨1,false,false,false,false,0,0,0,0,0,0,0,0,0,0,0,0,0,true,true,true,true,true,true,zl384⟩
def zoN(v:Nat):Mb:=⟨2,decide (v<=2)||decide (5<=v),decide (3<=v),false,false,0,0,0,0,0,0,0,0,0,0,0,0,0,false,false,false,false,false,false,zl384⟩
def zbW(c:Cx)(q:List UInt8)(n a:Nat):Rr (Mb×Bool):=if c.t=1 then .ok (inMb,true) a else(tkU q n a).bind λv a1=>if(if c.t=2 then 3 else 7)<v then .er 2 a1 else if v=(if c.t=2 then 3 else 7)then .ok (inMb,true) a1 else if v=0 then .ok (zMb,false) a1 else .ok (zoN v,decide (v%2=0)) a1
def zcO(c:Cx)(q:List UInt8)(n:Nat)(m:Mb)(s:St)(d k a:Nat):Rr (Mb×St):=
 (if m.fp||fcx c then(tkF q n a).bind λb a1=>.ok (zdS m d k (b.toNat:Int)) a1 else .ok m a).bind λm a1=>
 (tkD q n (sXs s d) 63 a1).bind λx a2=>(tkD q n (sYs s d) 63 a2).bind λy a3=>.ok (zaJ m d k x y,zbr s d x y) a3
def zaY(c:Cx)(q:List UInt8)(n d:Nat):Nat->Nat->Mb->St->Nat->Rr (Mb×St)
 | 0,_,m,s,a=>.ok (m,s) a
 | r+1,k,m,s,a=>(zcO c q n m s d k a).bind λx a1=>zaY c q n d r (k+1) x.1 x.2 a1
def zdI(c:Cx)(q:List UInt8)(n:Nat)(m:Mb)(s:St)(d a:Nat):Rr (Mb×St):=if usd m d then zaY c q n d (nvM m) 0 m s a else .ok (m,s) a
def zbq(c:Cx)(q:List UInt8)(n:Nat):Nat->Nat->Mb->St->Nat->Rr (Mb×St)
 | 0,_,m,s,a=>.ok (m,s) a
 | r+1,d,m,s,a=>(zdI c q n m s d a).bind λx a1=>zbq c q n r (d+1) x.1 x.2 a1
def zbp(c:Cx)(q:List UInt8)(n:Nat)(m:Mb)(s:St)(a:Nat):Rr (Mb×St):=if m.k=2 then(if bcx c then(tkF q n a).bind λb a1=>.ok { m with fp:=b } a1 else .ok m a).bind λm a1=>zbq c q n 2 0 m s a1 else .ok (m,s) a
def zbC(c:Cx)(q:List UInt8)(n:Nat)(hl:Bool)(m:Mb)(s:St)(a:Nat):Rr (Mb×St):=if hl then(if bcx c then(tkF q n a).bind λb a1=>.ok { m with fd:=b } a1 else .ok m a).bind λm a1=>(tkS q n a1).bind λd a2=>if vqB (s.q+d)then .ok ({ m with dl:=d },{ s with q:=s.q+d }) a2 else .er 2 a2 else .ok (m,s) a
def zcV(q:List UInt8)(n:Nat):Nat->Mb->Nat->Rr Mb
 | 0,m,a=>if zgA m then .ok m a else .er 2 a
 | r+1,m,a=>(tkF q n a).bind λb a1=>zcV q n r (zca m (5 - r) b) a1
def zbz(q:List UInt8)(n:Nat)(hl:Bool)(m:Mb)(a:Nat):Rr Mb:=if decide (m.k=2)&&hl then zcV q n 6 m a else .ok m a
def zaA(q:List UInt8)(n:Nat):Nat->Mb->St->Nat->Rr (Mb×St)
 | 0,m,s,a=>.ok (m,s) a
 | r+1,m,s,a=>if zN (cdl m) (5 - r)then
   (if m.k=2 then(zcW q n 0 a).bind λl a1=>if l=z64 then .er 2 a1 else zaA q n r (zaK m (5 - r) l) s a1
    else(tkD q n (dcS s (5 - r - 3)) 4095 a).bind λd a1=>(zcW q n 1 a1).bind λl a2=>zaA q n r (zaK m (5 - r) (l.set 0 d)) (zdi s (5 - r - 3) d) a2)else zaA q n r m s a
def zjf(c:Cx)(q:List UInt8)(n:Nat)(hl:Bool)(m:Mb)(s:St)(a:Nat):Rr (Mb×St):=(zbp c q n m s a).bind λy a2=>(zbC c q n hl y.1 y.2 a2).bind λz a3=>(zbz q n hl z.1 a3).bind λm a4=>(zaA q n 6 m z.2 a4).bind λw a5=>.ok (w.1,aft w.2 w.1.k) a5
def mtk(c:Cx)(s:St)(q:List UInt8)(n a:Nat):Rr (Mb×St):=(zbW c q n a).bind λx a1=>zjf c q n x.2 x.1 s a1
theorem zdA{q:List UInt8}{n a a1:Nat}{b:Bool}(h:tkF q n a= .ok b a1):a1=a+1/\a<n/\b=decide (zag q a=1):=by
 unfold tkF at h;split at h
 .injection h with h1 h2;exact⟨h2.symm,by assumption,h1.symm⟩
 .cases h
theorem zgi{q:List UInt8}{n a e a1:Nat}(h:tkF q n a= .er e a1):a1=a/\e=3/\n<=a:=by
 unfold tkF at h;split at h
 .cases h
 .injection h with h1 h2;omega
theorem zhi{q:List UInt8}{n a a1 most:Nat}{pr v:Int}(h:tkD q n pr most a= .ok v a1)(ha:a<=n):(-(most:Int)<=v/\v<=most)/\a<=a1/\a1<=n:=by
 unfold tkD at h;cases hs:tkS q n a with
 | er e a2=>rw[hs]at h;cases h
 | ok d a2=>
  rw[hs,Rr.bind_ok]at h;have b:=zcG hs ha;split at h
  .rename_i hw;injection h with h1 h2;subst h1 h2;exact⟨zeX hw,om,b.2.2⟩
  .cases h
theorem zpM{q:List UInt8}{n a a1 e most:Nat}{pr:Int}(h:tkD q n pr most a= .er e a1)(ha:a<=n):a<=a1/\a1<=n/\e<=3:=by
 unfold tkD at h;cases hs:tkS q n a with
 | er e2 a2=>
  rw[hs]at h;have:=zeY hs;injection h with h1 h2;omega
 | ok d a2=>
  rw[hs,Rr.bind_ok]at h;have b:=zcG hs ha;split at h
  .cases h
  .injection h with h1 h2;omega
def tC(s:St)(w:Nat)(c:Cx)(mi:Nat)(hl:Bool):List PV:=[.int .i64 s.q,.int .i64 s.da,.int .i64 s.db,.int .i64 s.dc,.int .i64 s.va,.int .i64 s.vb,.int .i64 s.vc,.int .i64 s.vd,.ptr w 0 0,.int .i64 c.t,.int .i64 c.s,.bool c.i,.bool c.n,.ptr mi 0 0,.bool hl]
def tB(s:St)(w:Nat)(c:Cx)(mi:Nat)(hl:Bool):Blk:=⟨235,0,tC s w c mi hl⟩
theorem zG(s:St)(w:Nat)(c:Cx)(mi:Nat)(hl:Bool):(tB s w c mi hl).ver=0:=rfl
theorem zH(s:St)(w:Nat)(c:Cx)(mi:Nat)(hl:Bool):(tB s w c mi hl).cells=tC s w c mi hl:=rfl
theorem zeI(s:St)(w:Nat)(c:Cx)(mi:Nat)(hl:Bool):(tB s w c mi hl).e=235:=rfl
theorem zaI(m:Mb):(mB m).ver=0:=rfl
theorem zaM(m:Mb):(mB m).cells=mbc m:=rfl
theorem zch(m:Mb):(mB m).e=109:=rfl
def tG(H:za)(i:Nat)(p:List UInt8)(n a:Nat)(X:za)(B4 B5:Blk):za:=H.set i (rA p n a)++(X++[B4,B5])
section
variable (H:za) (i:Nat) (p:List UInt8) (n a:Nat) (X:za) (B4 B5:Blk)
theorem zlZ(hi:i<H.length):(tG H i p n a X B4 B5)[i]? =some (rA p n a):=by unfold tG;rw[qQ (by simpa using hi)];simp[hi]
theorem zhn(hi:i<H.length)(a':Nat):(tG H i p n a X B4 B5).set i (rA p n a')=tG H i p n a' X B4 B5:=by unfold tG;rw[qM _ _ (by simpa using hi),List.set_set]
theorem zkF(hX:X.length=4):(tG H i p n a X B4 B5)[H.length+4]? =some B4:=by unfold tG;rw[qE sp,qB,show H.length+4 - H.length=4 from om,qE om,hX];rfl
theorem zjj(hX:X.length=4):(tG H i p n a X B4 B5)[H.length+5]? =some B5:=by unfold tG;rw[qE sp,qB,show H.length+5 - H.length=5 from om,qE om,hX];rfl
theorem zhp(hX:X.length=4)(B:Blk):(tG H i p n a X B4 B5).set (H.length+4) B=tG H i p n a X B B5:=by unfold tG;rw[qF _ _ sp,qB,show H.length+4 - H.length=4 from om,qF _ _ om,hX];rfl
theorem zho(hX:X.length=4)(B:Blk):(tG H i p n a X B4 B5).set (H.length+5) B=tG H i p n a X B4 B:=by unfold tG;rw[qF _ _ sp,qB,show H.length+5 - H.length=5 from om,qF _ _ om,hX];rfl
end
def rvF:Rr Bool->PV
 | .ok b _=>.tup [.bool b,.int .i64 0]
 | .er e _=>.tup [.bool false,.int .i64 ((e:Int)+1)]
section
variable (H:za) (i:Nat) (p:List UInt8) (n a:Nat) (X:za) (B4:Blk) (c:Cx) (s:St) (hl:Bool) (hi:i<H.length) (hX:X.length=4) (ha:a<=n) (hn:n<=8 * p.length) (hp:p.length<=100000000)
include hi hX ha hn hp
theorem zhm(pr:Int)(most:Nat)(hm:most<=4095)(hpr: -4095<=pr/\pr<=4095):CallOk qA 228 [.ptr (H.length+5) 0 0,.int .i64 pr,.int .i64 (most:Int)] (tG H i p n a X B4 (tB s i c (H.length+4) hl)) (rvS (tkD p n pr most a)) (tG H i p n (tkD p n pr most a).at X B4 (tB s i c (H.length+4) hl)):=by
 have g5:=λa=>zjj H i p n a X B4 (tB s i c (H.length+4) hl) hX;have gi:=zlZ H i p n a X B4 (tB s i c (H.length+4) hl) hi;have pc8:(tC s i c (H.length+4) hl)[8]? =some (.ptr i 0 0):=rfl;have t:=zjc i p n a _ gi ha hn hp;have wo:=λx K=>zfD x most K om;rw[zhn _ _ _ _ _ _ _ _ hi]at t;unfold tkD;cases hs:tkS p n a with
 | er e a1=>
  rw[hs]at t;simp only[Rr.bind,rvS,Rr.at]at t |-;have he:=(zeY hs).2;have d0:((e:Int)+1 !=0)=true:=by simp;omega
  generalize tG H i p n a1 X B4 (tB s i c (H.length+4) hl)=Hz at *;refine .go Tryz.func228 Tryz.ntmps228 Tryz.results228 ?_;refine .e ?_;refine .f (λK k=>by simp(disch:=omega) only[go_sem,g5,zG,zH,pc8];refine VCx.call (t) rfl ?_;simp(disch:=omega) only[go_sem,g5,zG,zH,pc8];exact k) ?_;refine .g d0 ?_;refine .t ?_;refine .e ?_;exact .ret ⟨_,rfl,Fin.now⟩
 | ok d a1=>
  rw[hs]at t;have b:=(zcG hs ha).1;simp only[Rr.bind,rvS,Rr.at]at t;have wd:=λK=>wo (pr+d) K;refine .go Tryz.func228 Tryz.ntmps228 Tryz.results228 ?_;refine .e ?_;refine .f (λK k=>by simp(disch:=omega) only[go_sem,g5,zG,zH,pc8];refine VCx.call (t) rfl ?_;simp(disch:=omega) only[go_sem,g5,zG,zH,pc8];exact k) ?_;refine .e ?_;refine .us ?_;simp only[Rr.bind];cases hw:win (pr+d) most with
  | true=>
   rw[hw]at wd;(repeat refine .seq ?_);refine .rg rfl λK hK=> ?_;simp(disch:=omega) only[go_sem];refine VCx.call (wd _) rfl ?_;simp(disch:=omega) only[go_sem];refine hK _ _ ?_;clear hK K;refine .us ?_;refine .e ?_;exact .ret ⟨_,rfl,Fin.now⟩
  | false=>rw[hw]at wd;(repeat refine .seq ?_);refine .rg rfl λK hK=> ?_;simp(disch:=omega) only[go_sem];refine VCx.call (wd _) rfl ?_;simp(disch:=omega) only[go_sem];refine hK _ _ ?_;clear hK K;refine .t ?_;refine .e ?_;exact .ret ⟨_,rfl,Fin.now⟩
end
end Sc
namespace Sc
open Pm Ty Go.RowKit
theorem zhW(m:Mb)(x:Int):(mbc m).set 0 (.int .i64 x)=mbc { m with k:=x }:=rfl
theorem zrh(m:Mb)(x y:Bool):qG 1 (mbc m)++ .bool x:: .bool y::qI 3 (mbc m)=mbc { m with ua:=x,ub:=y }:=rfl
theorem ztB(m:Mb)(b0 b1 b2 b3 b4 b5:Bool):qG 18 (mbc m)++ .bool b0:: .bool b1:: .bool b2:: .bool b3:: .bool b4:: .bool b5::qI 24 (mbc m)=mbc { m with ca:=b0,cb:=b1,cc:=b2,cd:=b3,ce:=b4,cf:=b5 }:=rfl
theorem zbh(m:Mb):(⟨109,0,mbc m⟩:Blk)=mB m:=rfl
theorem zcp(s:St)(w:Nat)(c:Cx)(mi:Nat)(hl:Bool):(⟨235,0,tC s w c mi hl⟩:Blk)=tB s w c mi hl:=rfl
theorem zuy(s:St)(w:Nat)(c:Cx)(mi:Nat)(hl b:Bool):(tC s w c mi hl).set 14 (.bool b)=tC s w c mi b:=rfl
theorem zaB(s:St)(w:Nat)(c:Cx)(mi:Nat)(hl:Bool):(tC s w c mi hl)[13]? =some (.ptr mi 0 0):=rfl
theorem zcP(s:St)(w:Nat)(c:Cx)(mi:Nat)(hl:Bool):(tC s w c mi hl)[8]? =some (.ptr w 0 0):=rfl
theorem zs1(s:St)(w:Nat)(c:Cx)(mi:Nat)(hl:Bool):(tC s w c mi hl)[9]? =some (.int .i64 c.t):=rfl
theorem zpT(s:St)(w:Nat)(c:Cx)(mi:Nat)(hl:Bool):qG 4 (qI 9 (tC s w c mi hl))=cxc c:=rfl
theorem zkG(s:St)(w:Nat)(c:Cx)(mi:Nat)(hl:Bool):(tC s w c mi hl)[14]? =some (.bool hl):=rfl
theorem zan(s:St)(w:Nat)(c:Cx)(mi:Nat)(hl:Bool):(tC s w c mi hl).length=15:=rfl
theorem zug(H:za):CallOk qA 143 [] H (.agg [.bool true,.bool true,.bool true,.bool true,.bool true,.bool true]) H:=by refine .go Tryz.func143 Tryz.ntmps143 Tryz.results143 ?_;refine .e ?_;refine .e ?_;refine .v (.agg [.bool true,.bool true,.bool true,.bool true,.bool true,.bool true]) ?_;exact .base (.id (zq (ziQ _ [true,true,true,true,true,true])))
section
variable (H:za) (i:Nat) (p:List UInt8) (n a:Nat) (X:za) (c:Cx) (s:St) (hl:Bool) (hX:X.length=4)
include hX
theorem zol(m:Mb)(hml:m.lv.length=384):CallOk qA 219 [.ptr (H.length+5) 0 0] (tG H i p n a X (mB m) (tB s i c (H.length+4) hl)) (.tup []) (tG H i p n a X (mB { m with k:=1,ca:=true,cb:=true,cc:=true,cd:=true,ce:=true,cf:=true }) (tB s i c (H.length+4) true)):=by have g5:=λB4 B5=>zjj H i p n a X B4 B5 hX;have g4:=λB4 B5=>zkF H i p n a X B4 B5 hX;have s5:=λB4 B5 B=>zho H i p n a X B4 B5 hX B;have s4:=λB4 B5 B=>zhp H i p n a X B4 B5 hX B;have hlen:=zu m hml;have al:=λK=>zug K;refine .go Tryz.func219 Tryz.ntmps219 Tryz.results219 ?_;refine .f (λK k=>by simp(disch:=omega) only[go_sem,g5,g4,s4,s5,zG,zH,zaB,zaI,zaM,zch,zhW,zbh,hlen];exact k) ?_;have hlen2:=zu { m with k:=1 } hml;(repeat refine .seq ?_);refine .draw mix kr λK hK=> ?_;simp(disch:=omega) only[go_sem,g5,g4,s4,s5,zG,zH,zaB,zaI,zaM,zch,zbh,hlen2];refine VCy.callP al rfl ?_;simp(disch:=omega) only[go_sem,g5,g4,s4,s5,zG,zH,zaB,zaI,zaM,zch,zbh,hlen2,ztB,qD];refine hK _ _ ?_;clear hK K;refine .f (λK k=>by simp(disch:=omega) only[go_sem,g5,g4,s4,s5,zG,zH,zeI,zaB,zuy,zan,zcp];exact k) ?_;exact Exists.intro _ (And.intro rfl Fin.now)
end
def ecd:Nat->PV:=λe=>.int .i64 ((e:Int)+1)
theorem zV:zl384.length=384:=by unfold zl384;exact List.length_replicate
section
variable (H:za) (i:Nat) (p:List UInt8) (n a:Nat) (X:za) (c:Cx) (s:St) (hi:i<H.length) (hX:X.length=4) (ha:a<=n) (hn:n<=8 * p.length) (hp:p.length<=100000000)
include hi hX ha hn hp
theorem zpC:CallOk qA 137 [.ptr (H.length+5) 0 0] (tG H i p n a X (mB zMb) (tB s i c (H.length+4) false))
  (match zbW c p n a with| .ok _ _=>.int .i64 0| .er e _=>ecd e)
  (match zbW c p n a with| .ok x a1=>tG H i p n a1 X (mB x.1) (tB s i c (H.length+4) x.2)| .er _ a1=>tG H i p n a1 X (mB zMb) (tB s i c (H.length+4) false)):=by
 have g5:=λa B4 B5=>zjj H i p n a X B4 B5 hX;have g4:=λa B4 B5=>zkF H i p n a X B4 B5 hX;have s5:=λa B4 B5 B=>zho H i p n a X B4 B5 hX B;have s4:=λa B4 B5 B=>zhp H i p n a X B4 B5 hX B;have ti:=λa=>zol H i p n a X c s false hX zMb zV;have hzl:=zu zMb zV;refine .go Tryz.func137 Tryz.ntmps137 Tryz.results137 ?_;refine .e ?_;by_cases ht1:c.t=1
 .have q1:(c.t==1)=true:=by simp[ht1]
  refine .f (λK k=>by simp(disch:=omega) only[go_sem,g5,zG,zH,zs1,q1];exact k) ?_;refine .t ?_;refine .k ti ?_;refine .e ?_;refine .ret ⟨_,rfl,?_⟩;have hk:zbW c p n a= .ok (inMb,true) a:=by unfold zbW;rw[if_pos ht1]
  rw[hk];exact .now
 have q1:(c.t==1)=false:=by simp[ht1]
 have tu:=zjb i p n a _ (zlZ H i p n a X (mB zMb) (tB s i c (H.length+4) false) hi) ha hn hp;rw[zhn _ _ _ _ _ _ _ _ hi]at tu;have hk:zbW c p n a=(tkU p n a).bind λv a1=>if(if c.t=2 then 3 else 7)<v then .er 2 a1 else if v=(if c.t=2 then 3 else 7)then .ok (inMb,true) a1 else if v=0 then .ok (zMb,false) a1 else .ok (zoN v,decide (v%2=0)) a1:=by unfold zbW;rw[if_neg ht1]
 refine .f (λK k=>by simp(disch:=omega) only[go_sem,g5,zG,zH,zs1,q1];exact k) ?_;refine .us ?_;cases hu:tkU p n a with
 | er e a1=>
  rw[hu]at tu hk;rw[hk];simp only[rvU,Rr.at,Rr.bind]at tu |-;have d0:((e:Int)+1 !=0)=true:=by simp;omega
  have he:=(zgh hu).2;refine .f (λK k=>by simp(disch:=omega) only[go_sem,g5,zG,zH,zcP];refine VCx.call (tu) rfl ?_;simp(disch:=omega) only[go_sem,g5,zG,zH,zcP];exact k) ?_;refine .g d0 ?_;refine .t ?_;refine .e ?_;exact .ret ⟨_,rfl,Fin.now⟩
 | ok v a1=>
  have hb:=zdz hu ha;rw[hu]at tu hk;rw[hk];simp only[rvU,Rr.at,Rr.bind]at tu |-;clear hk hu;refine .f (λK k=>by simp(disch:=omega) only[go_sem,g5,zG,zH,zcP];refine VCx.call (tu) rfl ?_;simp(disch:=omega) only[go_sem,g5,zG,zH,zcP];exact k) ?_;refine .e ?_;refine .us ?_;refine .e ?_;refine .to [0,3,5] [(0,.ptr (H.length+5) 0 0),(3,.int .i64 (v:Int)),(5,.int .i64 ((if c.t=2 then 3 else 7:Nat):Int))] (tG H i p n a1 X (mB zMb) (tB s i c (H.length+4) false)) ?_ ?_
  .by_cases ht2:c.t=2
   .have q2:(c.t==2)=true:=by simp[ht2]
    rw[if_pos ht2];refine .f (λK k=>by simp(disch:=omega) only[go_sem,g5,zG,zH,zs1,q2];exact k) ?_;refine .t ?_;refine .e ?_;exact⟨rfl,rfl⟩
   .have q2:(c.t==2)=false:=by simp[ht2]
    rw[if_neg ht2];refine .f (λK k=>by simp(disch:=omega) only[go_sem,g5,zG,zH,zs1,q2];exact k) ?_;refine .u ?_;exact .skip ⟨rfl,rfl⟩
  have hL:(if c.t=2 then 3 else 7:Nat)<=7:=by grind
  have hL0:3<=(if c.t=2 then 3 else 7:Nat):=by grind
  generalize (if c.t=2 then 3 else 7:Nat)=last at *;refine .b ?_;by_cases h1:last<v
  .have d1:decide ((last:Int)<(v:Int))=true:=decide_eq_true om;rw[if_pos h1];refine .g d1 ?_;refine .t ?_;refine .e ?_;exact .ret ⟨_,rfl,Fin.now⟩
  have d1:decide ((last:Int)<(v:Int))=false:=decide_eq_false om;rw[if_neg h1];refine .g d1 ?_;refine .u ?_;by_cases h2:v=last
  .have d2:((v:Int)==(last:Int))=true:=by simp[h2]
   rw[if_pos h2];refine .g d2 ?_;refine .t ?_;refine .k ti ?_;refine .e ?_;exact .ret ⟨_,rfl,Fin.now⟩
  have d2:((v:Int)==(last:Int))=false:=by grind
  rw[if_neg h2];refine .g d2 ?_;refine .u ?_;by_cases h3:v=0
  .have d3:decide ((0:Int)<(v:Int))=false:=decide_eq_false om;rw[if_pos h3];refine .g d3 ?_;refine .us ?_;refine .e ?_;exact .ret ⟨_,rfl,Fin.now⟩
  have d3:decide ((0:Int)<(v:Int))=true:=decide_eq_true om;rw[if_neg h3];refine .g d3 ?_;refine .t ?_;have hv7:v<7:=om;have h6:v=1\/v=2\/v=3\/v=4\/v=5\/v=6:=om;have hm6:mbc { zMb with k:=2 }=mbc { zMb with k:=2 }:=rfl;have hzl2:=zu { zMb with k:=2 } zV;clear h1 h2 h3 d1 d2 d3 hb hL hL0 tu;refine .f (λK k=>by simp(disch:=omega) only[go_sem,g5,g4,s4,s5,zG,zH,zaB,zaI,zaM,zch,zhW,zbh,hzl];exact k) ?_;rcases h6 with rfl|rfl|rfl|rfl|rfl|rfl;all_goals
   refine .f (λK k=>by simp(disch:=omega) only[go_sem,g5,g4,s4,s5,zG,zH,zaB,zaI,zaM,zch,zrh,zbh,hzl2,qD];exact k) ?_;refine .f (λK k=>by simp(disch:=omega) only[go_sem,g5,s5,zG,zH,zeI,zuy,zan,zcp];exact k) ?_;refine .e ?_;exact .ret ⟨_,rfl,Fin.now⟩
end
end Sc
namespace Sc
open Pm Ty Go.RowKit
theorem tC_x(s:St)(w:Nat)(c:Cx)(mi:Nat)(hl:Bool)(d:Nat)(hd:d<2):(tC s w c mi hl)[4+d * 2]? =some (.int .i64 (sXs s d)):=by have:d=0\/d=1:=om;rcases this with rfl|rfl<;>rfl
theorem tC_y(s:St)(w:Nat)(c:Cx)(mi:Nat)(hl:Bool)(d:Nat)(hd:d<2):(tC s w c mi hl)[4+d * 2+1]? =some (.int .i64 (sYs s d)):=by have:d=0\/d=1:=om;rcases this with rfl|rfl<;>rfl
theorem zw7(s:St)(w:Nat)(c:Cx)(mi:Nat)(hl:Bool)(d:Nat)(hd:d<2)(x:Int):(tC s w c mi hl).set (4+d * 2) (.int .i64 x)=tC (zbr s d x (sYs s d)) w c mi hl:=by have:d=0\/d=1:=om;rcases this with rfl|rfl<;>rfl
theorem zw6(s:St)(w:Nat)(c:Cx)(mi:Nat)(hl:Bool)(d:Nat)(hd:d<2)(y:Int):(tC s w c mi hl).set (4+d * 2+1) (.int .i64 y)=tC (zbr s d (sXs s d) y) w c mi hl:=by have:d=0\/d=1:=om;rcases this with rfl|rfl<;>rfl
theorem tC_v(s:St)(w:Nat)(c:Cx)(mi:Nat)(hl:Bool)(d:Nat)(hd:d<2):qG 2 (qI (4+d * 2) (tC s w c mi hl))=[.int .i64 (sXs s d),.int .i64 (sYs s d)]:=by have:d=0\/d=1:=om;rcases this with rfl|rfl<;>rfl
theorem zvA(s:St)(d:Nat)(x y z:Int):zbr (zbr s d x y) d x z=zbr s d x z:=by unfold zbr;split<;>rfl
theorem zqb(s:St)(d:Nat)(x y:Int):sXs (zbr s d x y) d=x:=by unfold zbr sXs;split<;>rfl
theorem zqa(s:St)(d:Nat)(x y:Int):sYs (zbr s d x y) d=y:=by unfold zbr sYs;split<;>rfl
theorem zri(m:Mb)(d k:Nat)(hd:d<2)(hk:k<2)(x:Int):(mbc m).set (13+d * 2+k) (.int .i64 x)=mbc (zdS m d k x):=by have h1:d=0\/d=1:=om;have h2:k=0\/k=1:=om;rcases h1 with rfl|rfl<;>rcases h2 with rfl|rfl<;>rfl
theorem zv2(m:Mb)(d k:Nat)(hd:d<2)(hk:k<2)(x y:Int):qG (5+d * 4+k * 2) (mbc m)++ .int .i64 x:: .int .i64 y::qI (5+d * 4+k * 2+(1+1)) (mbc m)=mbc (zaJ m d k x y):=by have h1:d=0\/d=1:=om;have h2:k=0\/k=1:=om;rcases h1 with rfl|rfl<;>rcases h2 with rfl|rfl<;>rfl
theorem zqc(m:Mb)(d k:Nat)(x:Int):(zdS m d k x).lv=m.lv:=by unfold zdS;split<;>split<;>rfl
theorem zdR(m:Mb)(d k:Nat)(x y:Int):(zaJ m d k x y).lv=m.lv:=by unfold zaJ;split<;>split<;>rfl
def zoD(H:za)(i:Nat)(p:List UInt8)(n:Nat)(X:za)(c:Cx)(hl:Bool)(x:Rr (Mb×St)):PV->za->Prop:=λv H'=>
 match x with
 | .ok y a=>v= .int .i64 0/\H'=tG H i p n a X (mB y.1) (tB y.2 i c (H.length+4) hl)
 | .er e _=>v=ecd e/\∃ a m s,a<=n/\m.lv.length=384/\H'=tG H i p n a X (mB m) (tB s i c (H.length+4) hl)
section
variable (H:za) (i:Nat) (p:List UInt8) (n:Nat) (X:za) (c:Cx) (hl:Bool) (hi:i<H.length) (hX:X.length=4) (hn:n<=8 * p.length) (hp:p.length<=100000000)
include hi hX hn hp
theorem zsR(m:Mb)(s:St)(d k a:Nat)(hd:d<2)(hk:k<2)(hml:m.lv.length=384)(hs:vrS s)(ha:a<=n):CallEx qA 224 [.ptr (H.length+5) 0 0,.int .i64 (d:Int),.int .i64 (k:Int)] (tG H i p n a X (mB m) (tB s i c (H.length+4) hl)) (zoD H i p n X c hl (zcO c p n m s d k a)):=by
 have g5:=λa B4 B5=>zjj H i p n a X B4 B5 hX;have g4:=λa B4 B5=>zkF H i p n a X B4 B5 hX;have s5:=λa B4 B5 B=>zho H i p n a X B4 B5 hX B;have s4:=λa B4 B5 B=>zhp H i p n a X B4 B5 hX B;have gi:=λa B4 B5=>zlZ H i p n a X B4 B5 hi;have si:=λa B4 B5 a'=>zhn H i p n a X B4 B5 hi a';have hlen:=zu m hml;have se:=zl4 c m (H.length+4) _ (g4 a (mB m) (tB s i c (H.length+4) hl));have tx:=λs=>tC_x s i c (H.length+4) hl d hd;have ty:=λs=>tC_y s i c (H.length+4) hl d hd;have tsx:=λs=>zw7 s i c (H.length+4) hl d hd;have tsy:=λs=>zw6 s i c (H.length+4) hl d hd;have tv:=λs=>tC_v s i c (H.length+4) hl d hd;generalize hres:zcO c p n m s d k a=res;unfold zcO at hres;refine CallEx.body (F0:=[(0,.ptr (H.length+5) 0 0),(1,.int .i64 (d:Int)),(2,.int .i64 (k:Int))]) Tryz.func224 rfl Tryz.ntmps224 Tryz.results224 rfl kr rfl ?_;refine .e ?_;(repeat refine .seq ?_);refine .drawt [] [] mix kr λK hK=> ?_;simp(maxSteps:=3000000) (disch:=omega) only[go_sem,g5,zG,zH,zpT,zaB,zan,qD,qH];refine VCj.now (se) rfl ?_;simp(maxSteps:=3000000) (disch:=omega) only[go_sem];refine hK _ _ ?_;clear hK K;suffices hrest:∀(m:Mb) (a:Nat),m.lv.length=384->a<=n->((tkD p n (sXs s d) 63 a).bind λx a2=>(tkD p n (sYs s d) 63 a2).bind λy a3=>.ok (zaJ m d k x y,zbr s d x y) a3)=res->
   PW qA _ _ [(0,.ptr (H.length+5) 0 0),(1,.int .i64 (d:Int)),(2,.int .i64 (k:Int))] (tG H i p n a X (mB m) (tB s i c (H.length+4) hl)) _ by
  cases hsel:(m.fp||fcx c)with
  | false=>
   rw[hsel,if_neg (by decide),Rr.bind_ok]at hres;refine .us ?_;exact .at [0,1,2] (hrest m a hml ha hres) rfl rfl
  | true=>
   rw[hsel,if_pos rfl]at hres;refine .t ?_;by_cases han:a<n
   .have hf:tkF p n a= .ok (decide (zag p a=1)) (a+1):=by unfold tkF;rw[if_pos han]
    rw[hf,Rr.bind_ok,Rr.bind_ok]at hres;have hub:=zcd p a;have t:=zdU i p n a 1 _ (gi a (mB m) (tB s i c (H.length+4) hl)) om hn hp om;rw[si,show vl p a 1=zag p a by simp[vl]]at t;have hbn:((decide (zag p a=1)).toNat:Int)=(zag p a:Int):=by have:zag p a=0\/zag p a=1:=om;rcases this with e|e<;>rw[e]<;>rfl
    rw[hbn]at hres;have hst:=zri m d k hd hk (zag p a:Int);refine .f (λK k=>by simp(maxSteps:=3000000) (disch:=omega) only[go_sem,g5,zG,zH,zcP];refine VCx.call (t) rfl ?_;simp(maxSteps:=3000000) (disch:=omega) only[go_sem,g5,zG,zH,zcP];exact k) ?_;refine .e ?_;refine .us ?_;refine .f (λK k=>by simp(maxSteps:=3000000) (disch:=omega) only[go_sem,g5,g4,s4,zG,zH,zaB,zaI,zaM,zch,hlen,hst,zbh];exact k) ?_;exact .at [0,1,2] (hrest _ (a+1) (by rw[zqc];exact hml) om hres) rfl rfl
   .have hf:tkF p n a= .er 3 a:=by unfold tkF;rw[if_neg han]
    rw[hf,Rr.bind_er,Rr.bind_er]at hres;have t:=zbY i p n a 1 _ (gi a (mB m) (tB s i c (H.length+4) hl)) om om om om;refine .f (λK k=>by simp(maxSteps:=3000000) (disch:=omega) only[go_sem,g5,zG,zH,zcP];refine VCx.call (t) rfl ?_;simp(maxSteps:=3000000) (disch:=omega) only[go_sem,g5,zG,zH,zcP];exact k) ?_;refine .e ?_;refine .t ?_;refine .e ?_;refine .ret ⟨_,rfl,.inl ?_⟩;rw[<-hres];exact⟨rfl,a,m,s,ha,hml,rfl⟩
 clear hres ha hml hlen se;intro m a hml ha hres;have hlen:=zu m hml;have hsd:=hs d;refine .f (λK k=>by simp(maxSteps:=3000000) (disch:=omega) only[go_sem,g5,zG];exact k) ?_;have t1:=zhm H i p n a X (mB m) c s hl hi hX ha hn hp (sXs s d) 63 om om;cases h1:tkD p n (sXs s d) 63 a with
 | er e a1=>
  have hb:=zpM h1 ha;rw[h1]at t1 hres;simp only[rvS,Rr.at,Rr.bind]at t1 hres;have d0:((e:Int)+1 !=0)=true:=by simp;omega
  refine .f (λK k=>by simp(maxSteps:=3000000) (disch:=omega) only[go_sem,g5,zG,zH,tx,s5,tsx,zeI,zcp,zan];refine VCx.call (t1) rfl ?_;simp(maxSteps:=3000000) (disch:=omega) only[go_sem,g5,zG,zH,tx,s5,tsx,zeI,zcp,zan];exact k) ?_;refine .g d0 ?_;refine .t ?_;refine .e ?_;refine .ret ⟨_,rfl,.inl ?_⟩;rw[<-hres];exact⟨rfl,a1,m,_,hb.2.1,hml,rfl⟩
 | ok x a1=>
  have hb:=zhi h1 ha;rw[h1]at t1 hres;simp only[rvS,Rr.at]at t1;rw[Rr.bind_ok]at hres;refine .f (λK k=>by simp(maxSteps:=3000000) (disch:=omega) only[go_sem,g5,zG,zH,tx,s5,tsx,zeI,zcp,zan];refine VCx.call (t1) rfl ?_;simp(maxSteps:=3000000) (disch:=omega) only[go_sem,g5,zG,zH,tx,s5,tsx,zeI,zcp,zan];exact k) ?_;refine .e ?_;refine .us ?_;have t2:=zhm H i p n a1 X (mB m) c (zbr s d x (sYs s d)) hl hi hX hb.2.2 hn hp (sYs s d) 63 om om;have ty2:=ty (zbr s d x (sYs s d));rw[zqa]at ty2;have tsy2:=tsy (zbr s d x (sYs s d));rw[zqb]at tsy2;simp only[zvA]at tsy2;cases h2:tkD p n (sYs s d) 63 a1 with
  | er e a2=>
   have hb2:=zpM h2 hb.2.2;rw[h2]at t2 hres;simp only[rvS,Rr.at,Rr.bind]at t2 hres;have d0:((e:Int)+1 !=0)=true:=by simp;omega
   refine .f (λK k=>by simp(maxSteps:=3000000) (disch:=omega) only[go_sem,g5,zG,zH,ty2,s5,tsy2,zeI,zcp,zan];refine VCx.call (t2) rfl ?_;simp(maxSteps:=3000000) (disch:=omega) only[go_sem,g5,zG,zH,ty2,s5,tsy2,zeI,zcp,zan];exact k) ?_;refine .g d0 ?_;refine .t ?_;refine .e ?_;refine .ret ⟨_,rfl,.inl ?_⟩;rw[<-hres];exact⟨rfl,a2,m,_,hb2.2.1,hml,rfl⟩
  | ok y a2=>have hb2:=zhi h2 hb.2.2;rw[h2]at t2 hres;simp only[rvS,Rr.at]at t2;rw[Rr.bind_ok]at hres;have tv2:=tv (zbr s d x y);rw[zqb,zqa]at tv2;have hsv:=zv2 m d k hd hk x y;refine .f (λK k=>by simp(maxSteps:=3000000) (disch:=omega) only[go_sem,g5,zG,zH,ty2,s5,tsy2,zeI,zcp,zan];refine VCx.call (t2) rfl ?_;simp(maxSteps:=3000000) (disch:=omega) only[go_sem,g5,zG,zH,ty2,s5,tsy2,zeI,zcp,zan];exact k) ?_;refine .e ?_;refine .us ?_;(repeat refine .seq ?_);refine .drawi [H.length+4] [(81,[0]),(87,[0]),(88,[0]),(89,[0]),(90,[0])] [] [] mix kr (by simp<;>omega) λK hK=> ?_;simp(maxSteps:=3000000) (disch:=omega) only[go_sem,g5,g4,s4,zG,zH,zaB,zan,tv2,zaI,zaM,zch,hlen,hsv,zbh];refine hK _ _ ?_;clear hK K;refine .e ?_;refine .ret ⟨_,rfl,.inl ?_⟩;rw[<-hres];exact⟨rfl,rfl⟩
end
end Sc
namespace Sc
open Pm Ty Go.RowKit
theorem zfJ(L:za)(ti i:Nat)(p:List UInt8)(n a:Nat)(c:Cx)(s:St)(mi:Nat)(hl:Bool)(hT:L[ti]? =some (tB s i c mi hl))(hR:L[i]? =some (rA p n a))(ha:a<=n)(hn:n<=8 * p.length)(hp:p.length<=100000000):
  CallOk qA 222 [.ptr ti 0 0] L (rvF (tkF p n a)) (L.set i (rA p n (tkF p n a).at)):=by
 have hself:=zai hR;cases hf:tkF p n a with
 | ok b a1=>
  obtain⟨rfl,h2,rfl⟩:=zdA hf;have t:=zdU i p n a 1 _ hR om hn hp om;rw[show vl p a 1=zag p a by simp[vl]]at t;have e1:((zag p a:Int)==1)=decide (zag p a=1):=by grind
  simp only[rvF,Rr.at];generalize L.set i (rA p n (a+1))=Hz at *;refine .go Tryz.func222 Tryz.ntmps222 Tryz.results222 ?_;refine .e ?_;refine .f (λK k=>by simp(maxSteps:=3000000) (disch:=omega) only[go_sem,hT,zG,zH,zcP];refine VCx.call (t) rfl ?_;simp(maxSteps:=3000000) (disch:=omega) only[go_sem,hT,zG,zH,zcP];exact k) ?_;refine .g e1 ?_;exact .ret ⟨_,rfl,Fin.now⟩
 | er e a1=>obtain⟨rfl,rfl,h2⟩:=zgi hf;have t:=zbY i p n a1 1 _ hR om om om om;simp only[rvF,Rr.at,hself];refine .go Tryz.func222 Tryz.ntmps222 Tryz.results222 ?_;refine .e ?_;refine .f (λK k=>by simp(maxSteps:=3000000) (disch:=omega) only[go_sem,hT,zG,zH,zcP];refine VCx.call (t) rfl ?_;simp(maxSteps:=3000000) (disch:=omega) only[go_sem,hT,zG,zH,zcP];exact k) ?_;refine .e ?_;exact .ret ⟨_,rfl,Fin.now⟩
theorem zjN(m:Mb)(b:Bool):(mbc m).set 3 (.bool b)=mbc { m with fp:=b }:=rfl
theorem zjP(m:Mb)(b:Bool):(mbc m).set 4 (.bool b)=mbc { m with fd:=b }:=rfl
theorem zdH(m:Mb):(mbc m)[0]? =some (.int .i64 m.k):=rfl
theorem zvX(m:Mb):qG 2 (qI 1 (mbc m))=[.bool m.ua,.bool m.ub]:=rfl
def SameU(m m':Mb):Prop:=m'.lv=m.lv/\m'.ua=m.ua/\m'.ub=m.ub/\m'.fp=m.fp/\m'.k=m.k
theorem SameU.refl(m:Mb):SameU m m:=⟨rfl,rfl,rfl,rfl,rfl⟩
theorem SameU.trans{a b c:Mb}(h:SameU a b)(k:SameU b c):SameU a c:=⟨k.1.trans h.1,k.2.1.trans h.2.1,k.2.2.1.trans h.2.2.1,k.2.2.2.1.trans h.2.2.2.1,k.2.2.2.2.trans h.2.2.2.2⟩
theorem zhx(m:Mb)(d k:Nat)(x:Int):SameU m (zdS m d k x):=by unfold zdS;split<;>split<;>exact⟨rfl,rfl,rfl,rfl,rfl⟩
theorem zhw(m:Mb)(d k:Nat)(x y:Int):SameU m (zaJ m d k x y):=by unfold zaJ;split<;>split<;>exact⟨rfl,rfl,rfl,rfl,rfl⟩
theorem zkt{s:St}(hs:vrS s)(d:Nat){x y:Int}(hx: -63<=x/\x<=63)(hy: -63<=y/\y<=63):vrS (zbr s d x y):=λe=>by have h0:=hs 0;have h1:=hs 1;grind[zbr,sXs,sYs]
theorem zpG{c:Cx}{p:List UInt8}{n:Nat}{m:Mb}{s:St}{d k a:Nat}{y:Mb×St}{a1:Nat}(h:zcO c p n m s d k a= .ok y a1)(ha:a<=n)(hs:vrS s):a1<=n/\SameU m y.1/\vrS y.2:=by
 unfold zcO at h;suffices hr:∀(m':Mb) (a':Nat),SameU m m'->a'<=n->((tkD p n (sXs s d) 63 a').bind λx a2=>(tkD p n (sYs s d) 63 a2).bind λy a3=>.ok (zaJ m' d k x y,zbr s d x y) a3)= .ok y a1->a1<=n/\SameU m y.1/\vrS y.2 by
  split at h
  .cases hf:tkF p n a with
   | er e a2=>rw[hf]at h;cases h
   | ok b a2=>have:=zdA hf;grind[Rr.bind_ok,zhx]
  .rw[Rr.bind_ok]at h;exact hr _ _ (.refl m) ha h
 intro m' a' hm' ha' h;cases h1:tkD p n (sXs s d) 63 a' with
 | er e a2=>rw[h1]at h;cases h
 | ok x a2=>
  have b1:=zhi h1 ha';rw[h1,Rr.bind_ok]at h;cases h2:tkD p n (sYs s d) 63 a2 with
  | er e a3=>rw[h2]at h;cases h
  | ok z a3=>have b2:=zhi h2 b1.2.2;rw[h2,Rr.bind_ok]at h;injection h with e1 e2;subst e1 e2;exact⟨b2.2.2,hm'.trans (zhw _ _ _ _ _),zkt hs d om om⟩
theorem zpF{c:Cx}{p:List UInt8}{n d:Nat}:∀(r k:Nat) (m:Mb) (s:St) (a:Nat) {y:Mb×St} {a1:Nat},zaY c p n d r k m s a= .ok y a1->a<=n->vrS s->a1<=n/\SameU m y.1/\vrS y.2
 | 0,k,m,s,a,y,a1,h,ha,hs=>by
  simp only[zaY]at h;injection h with e1 e2;subst e1 e2;exact⟨ha,.refl m,hs⟩
 | r+1,k,m,s,a,y,a1,h,ha,hs=>by
  simp only[zaY]at h;cases h1:zcO c p n m s d k a with
  | er e a2=>rw[h1]at h;cases h
  | ok x a2=>obtain⟨b1,b2,b3⟩:=zpG h1 ha hs;rw[h1,Rr.bind_ok]at h;obtain⟨c1,c2,c3⟩:=zpF r (k+1) x.1 x.2 a2 h b1 b3;exact⟨c1,b2.trans c2,c3⟩
theorem zvp{c:Cx}{p:List UInt8}{n d:Nat}{m:Mb}{s:St}{a:Nat}{y:Mb×St}{a1:Nat}(h:zdI c p n m s d a= .ok y a1)(ha:a<=n)(hs:vrS s):a1<=n/\SameU m y.1/\vrS y.2:=by
 unfold zdI at h;split at h
 .exact zpF _ _ _ _ _ h ha hs
 .injection h with e1 e2;subst e1 e2;exact⟨ha,.refl m,hs⟩
section
variable (H:za) (i:Nat) (p:List UInt8) (n:Nat) (X:za) (c:Cx) (hl:Bool) (hi:i<H.length) (hX:X.length=4) (hn:n<=8 * p.length) (hp:p.length<=100000000)
include hi hX hn hp
theorem zpA(m:Mb)(s:St)(a:Nat)(hml:m.lv.length=384)(hs:vrS s)(ha:a<=n):CallEx qA 138 [.ptr (H.length+5) 0 0] (tG H i p n a X (mB m) (tB s i c (H.length+4) hl)) (zoD H i p n X c hl (zbp c p n m s a)):=by
 have g5:=λa B4 B5=>zjj H i p n a X B4 B5 hX;have g4:=λa B4 B5=>zkF H i p n a X B4 B5 hX;have s5:=λa B4 B5 B=>zho H i p n a X B4 B5 hX B;have s4:=λa B4 B5 B=>zhp H i p n a X B4 B5 hX B;have gi:=λa B4 B5=>zlZ H i p n a X B4 B5 hi;have si:=λa B4 B5 a'=>zhn H i p n a X B4 B5 hi a';have hlen:=zu m hml;have bo:=λK=>zkg c K;generalize hres:zbp c p n m s a=res;unfold zbp at hres;by_cases hk:m.k=2;rotate_left
 .rw[if_neg hk]at hres;have d1:decide (m.k=2)=false:=decide_eq_false hk;have d2:(m.k !=2)=true:=by simp[hk]
  refine CallEx.body (F0:=[(0,.ptr (H.length+5) 0 0)]) Tryz.func138 rfl Tryz.ntmps138 Tryz.results138 rfl kr rfl ?_;refine .e ?_;refine .f (λK k=>by simp(maxSteps:=3000000) (disch:=omega) only[go_sem,g5,g4,zG,zH,zaB,zaI,zaM,zdH,d2];exact k) ?_;refine .t ?_;refine .e ?_;refine .ret ⟨_,rfl,.inl ?_⟩;rw[<-hres];exact⟨rfl,rfl⟩
 rw[if_pos hk]at hres;have d2:(m.k !=2)=false:=by simp[hk]
 refine CallEx.body (F0:=[(0,.ptr (H.length+5) 0 0)]) Tryz.func138 rfl Tryz.ntmps138 Tryz.results138 rfl kr rfl ?_;refine .e ?_;refine .f (λK k=>by simp(maxSteps:=3000000) (disch:=omega) only[go_sem,g5,g4,zG,zH,zaB,zaI,zaM,zdH,d2];exact k) ?_;refine .us ?_;suffices hrest:∀(m:Mb) (a:Nat),m.lv.length=384->a<=n->zbq c p n 2 0 m s a=res->PW qA _ _ [(0,.ptr (H.length+5) 0 0)] (tG H i p n a X (mB m) (tB s i c (H.length+4) hl)) _ by
  refine .f (λK k=>by simp(maxSteps:=3000000) (disch:=omega) only[go_sem,g5,zG,zH,zpT,zan,qD,qH];refine VCx.call (bo _) rfl ?_;simp(maxSteps:=3000000) (disch:=omega) only[go_sem,g5,zG,zH,zpT,zan,qD,qH];exact k) ?_;cases hbv:bcx c with
  | false=>
   rw[hbv,if_neg (by decide),Rr.bind_ok]at hres;refine .us ?_;exact .at [0] (hrest m a hml ha hres) rfl rfl
  | true=>
   rw[hbv,if_pos rfl]at hres;refine .t ?_;(repeat refine .seq ?_);refine .drawi [i,H.length+4] [(24,[1]),(25,[0]),(29,[1]),(30,[1])] [] [] mix kr (by simp<;>omega) λK hK=> ?_;simp(maxSteps:=3000000) (disch:=omega) only[go_sem,g5,zG,zH,zaB];refine VCj.wr1 (gi a (mB m) (tB s i c (H.length+4) hl)) (λL hL hG=>zfJ L (H.length+5) i p n a c s (H.length+4) hl ((hG.out _ (by simp;omega)).trans (g5 _ _ _)) hL ha hn hp) (by simp(maxSteps:=3000000) (disch:=omega) only[go_sem]) (.inl rfl) rfl ?_;rw[si];cases hf:tkF p n a with
   | ok b a1=>
    obtain⟨rfl,h2,_⟩:=zdA hf;rw[hf,Rr.bind_ok,Rr.bind_ok]at hres;simp only[rvF,Rr.at];simp(maxSteps:=3000000) (disch:=omega) only[go_sem,g4,s4,zaI,zaM,zch,hlen,zjN,zbh];refine hK _ _ ?_;clear hK K;refine .e ?_;refine .us ?_;exact .at [0] (hrest { m with fp:=b } (a+1) hml om hres) rfl rfl
   | er e a1=>obtain⟨rfl,rfl,h2⟩:=zgi hf;rw[hf,Rr.bind_er,Rr.bind_er]at hres;simp only[rvF,Rr.at];simp(maxSteps:=3000000) (disch:=omega) only[go_sem,g4,s4,zaI,zaM,zch,hlen,zjN,zbh];refine hK _ _ ?_;clear hK K;refine .e ?_;refine .t ?_;refine .e ?_;refine .ret ⟨_,rfl,.inl ?_⟩;rw[<-hres];exact⟨rfl,a1,{ m with fp:=false },s,ha,hml,rfl⟩
 clear hres ha hml hlen;intro m a hml ha hres;have ve:=λm1 s1 a1=>zsN m1 (H.length+4) _ (g4 a1 (mB m1) (tB s1 i c (H.length+4) hl));have vc:=λm1 s1 d k a1 hd hk hml hs ha=>zsR H i p n X c hl hi hX hn hp m1 s1 d k a1 hd hk hml hs ha;have hlen:=zu m hml;refine .f (λK k=>by simp(maxSteps:=3000000) (disch:=omega) only[go_sem,g5,g4,zG,zH,zaB,zaI,zaM,zvX,hlen,qD,qH];exact k) ?_;refine .l ?_;suffices hl1:∀(d:Nat) (m1:Mb) (s1:St) (a1:Nat),d<=2->SameU m m1->vrS s1->a1<=n->zbq c p n (2 - d) d m1 s1 a1=res->PL qA _ _ [(0,.ptr (H.length+5) 0 0),(40,.agg [.bool m.ua,.bool m.ub]),(41,.int .i64 (d:Int))] (tG H i p n a1 X (mB m1) (tB s1 i c (H.length+4) hl)) _ by exact .at [0,40,41] (hl1 0 m s a om (.refl m) hs ha hres) rfl rfl
 clear hres ha hlen hs;intro d m1 s1 a1 hd hm1 hs1 ha1 hres;induction hdd:2 - d using qJ generalizing d m1 s1 a1 with
 | _ dd ih=>
  refine .round ?_;refine .e ?_;refine .c (λh=> ?_) (λh=> ?_);rotate_left
  .have h6:d=2:=by grind
   subst h6;refine .exit ?_;simp only[qL,zbq]at hres;refine .e ?_;refine .ret ⟨_,rfl,.inl ?_⟩;rw[<-hres];exact⟨rfl,rfl⟩
  have h6:d<2:=by grind
  obtain⟨n',hn'⟩:∃ n',2 - d=n'+1:=⟨1 - d,om⟩;rw[hn',zbq]at hres;have hnx:=λm1 s1 a1=>ih (2 - (d+1)) om (d+1) m1 s1 a1 om;rw[show 2 - (d+1)=n' from om]at hnx;have hus:([.bool m.ua,.bool m.ub]:List PV)[d]? =some (.bool (usd m1 d)):=by have:d=0\/d=1:=om;unfold usd;rw[hm1.2.1,hm1.2.2.1];rcases this with rfl|rfl<;>rfl
  have hdr:zdI c p n m1 s1 d a1=if usd m1 d then zaY c p n d (nvM m1) 0 m1 s1 a1 else .ok (m1,s1) a1:=rfl
  rw[hdr]at hres;refine .skip ?_;refine .b ?_;refine .g hus ?_;refine .e ?_;cases hu:usd m1 d with
  | false=>
   rw[hu,if_neg (by decide),Rr.bind_ok]at hres;refine .t ?_;refine .exit ?_;refine .e ?_;exact .at [0,40,41] (hnx m1 s1 a1 hm1 hs1 ha1 hres rfl) rfl rfl
  | true=>
   rw[hu,if_pos rfl]at hres;refine .us ?_;have vo:=ve m1 s1 a1;have env:(if m1.fp then(2:Int)else 1)=((nvM m:Nat):Int):=by unfold nvM;rw[hm1.2.2.2.1];cases m.fp<;>rfl
   have env2:nvM m1=nvM m:=by unfold nvM;rw[hm1.2.2.2.1]
   rw[env]at vo;rw[env2]at hres;refine .f (λK k=>by simp(maxSteps:=3000000) (disch:=omega) only[go_sem,g5,zG,zH,zaB];refine VCx.call (vo) rfl ?_;simp(maxSteps:=3000000) (disch:=omega) only[go_sem,g5,zG,zH,zaB];exact k) ?_;refine .l ?_;suffices hl2:∀(k:Nat) (m2:Mb) (s2:St) (a2:Nat),k<=nvM m->SameU m m2->vrS s2->a2<=n->((zaY c p n d (nvM m - k) k m2 s2 a2).bind λx a1=>zbq c p n n' (d+1) x.1 x.2 a1)=res->
     PL qA _ _ [(0,.ptr (H.length+5) 0 0),(3,.int .i64 (d:Int)),(40,.agg [.bool m.ua,.bool m.ub]),(41,.int .i64 (d:Int)),(51,.int .i64 (nvM m:Int)),(52,.int .i64 (k:Int))] (tG H i p n a2 X (mB m2) (tB s2 i c (H.length+4) hl)) _ by
    exact .at [0,3,40,41,51,52] (hl2 0 m1 s1 a1 om hm1 hs1 ha1 hres) rfl rfl
   clear ih hres hs1 ha1 vo hdr hu hus env env2 hm1;have hnv:=zuL m;intro k m2 s2 a2 hk2 hm2 hs2 ha2 hres;induction hkk:nvM m - k using qJ generalizing k m2 s2 a2 with
   | _ kk ih2=>
    refine .round ?_;refine .e ?_;refine .c (λh=> ?_) (λh=> ?_);rotate_left
    .have h7:k=nvM m:=by grind
     subst h7;refine .exit ?_;simp only[qL,zaY,Rr.bind_ok]at hres;refine .e ?_;exact .at [0,40,41] (hnx m2 s2 a2 hm2 hs2 ha2 hres rfl) rfl rfl
    have h7:k<nvM m:=by grind
    obtain⟨n2,hn2⟩:∃ n2,nvM m - k=n2+1:=⟨nvM m - k - 1,om⟩;rw[hn2,zaY,Rr.bind_bind]at hres;have hnx2:=λm1 s1 a1=>ih2 (nvM m - (k+1)) om (k+1) m1 s1 a1 om;rw[show nvM m - (k+1)=n2 from om]at hnx2;clear ih2;have v1:=vc m2 s2 d k a2 h6 om (by rw[hm2.1];exact hml) hs2 ha2;refine .skip ?_;refine .b ?_;refine .e ?_;(repeat refine .seq ?_);refine .rg rfl λK hK=> ?_;simp(maxSteps:=3000000) (disch:=omega) only[go_sem];refine VCx.callR v1 rfl λv H' hR=> ?_;cases hv:zcO c p n m2 s2 d k a2 with
    | er e a3=>
     rw[hv]at hR hres;obtain⟨rfl,a4,m4,s4',h1,h2,rfl⟩:=hR;rw[Rr.bind_er]at hres;have d0:((e:Int)+1 !=0)=true:=by simp;omega
     simp(maxSteps:=3000000) (disch:=omega) only[go_sem,ecd];refine hK _ _ ?_;clear hK K;refine .g d0 ?_;refine .t ?_;refine .e ?_;refine .ret ⟨_,rfl,.inl ?_⟩;rw[<-hres];exact⟨rfl,a4,m4,s4',h1,h2,rfl⟩
    | ok y a3=>obtain⟨b1,b2,b3⟩:=zpG hv ha2 hs2;rw[hv]at hR hres;obtain⟨rfl,rfl⟩:=hR;rw[Rr.bind_ok]at hres;simp(maxSteps:=3000000) (disch:=omega) only[go_sem];refine hK _ _ ?_;clear hK K;refine .e ?_;refine .us ?_;refine .e ?_;exact .at [0,3,40,41,51,52] (hnx2 y.1 y.2 a3 (hm2.trans b2) b3 b1 hres rfl) rfl rfl
end
end Sc
namespace Sc
open Pm Ty Go.RowKit
theorem zjO(m:Mb)(x:Int):(mbc m).set 17 (.int .i64 x)=mbc { m with dl:=x }:=rfl
theorem zuO(m:Mb):(mbc m)[17]? =some (.int .i64 m.dl):=rfl
theorem zvr(s:St)(w:Nat)(c:Cx)(mi:Nat)(hl:Bool):(tC s w c mi hl)[0]? =some (.int .i64 s.q):=rfl
theorem zw8(s:St)(w:Nat)(c:Cx)(mi:Nat)(hl:Bool)(x:Int):(tC s w c mi hl).set 0 (.int .i64 x)=tC { s with q:=x } w c mi hl:=rfl
theorem zrj(m:Mb)(n:Nat)(b:Bool)(hn:n<6):(mbc m).set (18+n) (.bool b)=mbc (zca m n b):=by have:n=0\/n=1\/n=2\/n=3\/n=4\/n=5:=om;rcases this with rfl|rfl|rfl|rfl|rfl|rfl<;>rfl
theorem zdT(m:Mb)(n:Nat)(b:Bool):(zca m n b).lv=m.lv:=by grind[zca]
theorem zrn(m:Mb):qG 6 (qI 18 (mbc m))=fs (cdl m):=rfl
theorem zxL(a b c d e f:Bool):zew qA .eql 105 (.agg [.bool a,.bool b,.bool c,.bool d,.bool e,.bool f]) (.agg [.bool false,.bool false,.bool false,.bool false,.bool false,.bool false])=some (.bool ((a==false)&&((b==false)&&((c==false)&&((d==false)&&((e==false)&&((f==false)&&true))))))):=kr
theorem zxM(m:Mb):zew qA .eql 105 (.agg (fs (cdl m))) (.agg [.bool false,.bool false,.bool false,.bool false,.bool false,.bool false])=some (.bool !zgA m):=by simp_all[zxL,fs,cdl,zgA]
section
variable (H:za) (i:Nat) (p:List UInt8) (n:Nat) (X:za) (c:Cx) (hl:Bool) (hi:i<H.length) (hX:X.length=4) (hn:n<=8 * p.length) (hp:p.length<=100000000)
include hi hX hn hp
theorem zs0(m:Mb)(s:St)(a:Nat)(hml:m.lv.length=384)(hq:1<=s.q/\s.q<=31)(ha:a<=n):CallEx qA 139 [.ptr (H.length+5) 0 0] (tG H i p n a X (mB m) (tB s i c (H.length+4) hl)) (zoD H i p n X c hl (zbC c p n hl m s a)):=by
 have g5:=λa B4 B5=>zjj H i p n a X B4 B5 hX;have g4:=λa B4 B5=>zkF H i p n a X B4 B5 hX;have s5:=λa B4 B5 B=>zho H i p n a X B4 B5 hX B;have s4:=λa B4 B5 B=>zhp H i p n a X B4 B5 hX B;have gi:=λa B4 B5=>zlZ H i p n a X B4 B5 hi;have si:=λa B4 B5 a'=>zhn H i p n a X B4 B5 hi a';have hlen:=zu m hml;have bo:=λK=>zkg c K;have qo:=λx K=>zur x K;generalize hres:zbC c p n hl m s a=res;unfold zbC at hres;refine CallEx.body (F0:=[(0,.ptr (H.length+5) 0 0)]) Tryz.func139 rfl Tryz.ntmps139 Tryz.results139 rfl kr rfl ?_;refine .e ?_;cases hhl:hl with
 | false=>
  subst hhl;rw[if_neg (by decide)]at hres;refine .f (λK k=>by simp(maxSteps:=3000000) (disch:=omega) only[go_sem,g5,zG,zH,zkG];exact k) ?_;refine .t ?_;refine .e ?_;refine .ret ⟨_,rfl,.inl ?_⟩;rw[<-hres];exact⟨rfl,rfl⟩
 | true=>
  subst hhl;rw[if_pos rfl]at hres;refine .f (λK k=>by simp(maxSteps:=3000000) (disch:=omega) only[go_sem,g5,zG,zH,zkG];exact k) ?_;refine .us ?_;suffices hrest:∀(m:Mb) (a:Nat),m.lv.length=384->a<=n->((tkS p n a).bind λd a2=>if vqB (s.q+d)then .ok ({ m with dl:=d },{ s with q:=s.q+d }) a2 else .er 2 a2)=res->PW qA _ _ [(0,.ptr (H.length+5) 0 0)] (tG H i p n a X (mB m) (tB s i c (H.length+4) true)) _ by
   refine .f (λK k=>by simp(maxSteps:=3000000) (disch:=omega) only[go_sem,g5,zG,zH,zpT,zan,qD,qH];refine VCx.call (bo _) rfl ?_;simp(maxSteps:=3000000) (disch:=omega) only[go_sem,g5,zG,zH,zpT,zan,qD,qH];exact k) ?_;cases hbv:bcx c with
   | false=>
    rw[hbv,if_neg (by decide),Rr.bind_ok]at hres;refine .us ?_;exact .at [0] (hrest m a hml ha hres) rfl rfl
   | true=>
    rw[hbv,if_pos rfl]at hres;refine .t ?_;(repeat refine .seq ?_);refine .drawi [i,H.length+4] [(17,[1]),(18,[0]),(22,[1]),(23,[1])] [] [] mix kr (by simp<;>omega) λK hK=> ?_;simp(maxSteps:=3000000) (disch:=omega) only[go_sem,g5,zG,zH,zaB];refine VCj.wr1 (gi a (mB m) (tB s i c (H.length+4) true)) (λL hL hG=>zfJ L (H.length+5) i p n a c s (H.length+4) true ((hG.out _ (by simp;omega)).trans (g5 _ _ _)) hL ha hn hp) (by simp(maxSteps:=3000000) (disch:=omega) only[go_sem]) (.inl rfl) rfl ?_;rw[si];cases hf:tkF p n a with
    | ok b a1=>
     obtain⟨rfl,h2,_⟩:=zdA hf;rw[hf,Rr.bind_ok,Rr.bind_ok]at hres;simp only[rvF,Rr.at];simp(maxSteps:=3000000) (disch:=omega) only[go_sem,g4,s4,zaI,zaM,zch,hlen,zjP,zbh];refine hK _ _ ?_;clear hK K;refine .e ?_;refine .us ?_;exact .at [0] (hrest { m with fd:=b } (a+1) hml om hres) rfl rfl
    | er e a1=>obtain⟨rfl,rfl,h2⟩:=zgi hf;rw[hf,Rr.bind_er,Rr.bind_er]at hres;simp only[rvF,Rr.at];simp(maxSteps:=3000000) (disch:=omega) only[go_sem,g4,s4,zaI,zaM,zch,hlen,zjP,zbh];refine hK _ _ ?_;clear hK K;refine .e ?_;refine .t ?_;refine .e ?_;refine .ret ⟨_,rfl,.inl ?_⟩;rw[<-hres];exact⟨rfl,a1,{ m with fd:=false },s,ha,hml,rfl⟩
  clear hres ha hml hlen;intro m a hml ha hres;have hlen:=zu m hml;(repeat refine .seq ?_);refine .drawi [i,H.length+4] [(31,[1]),(35,[0]),(39,[1]),(40,[1])] [] [] mix kr (by simp<;>omega) λK hK=> ?_;simp(maxSteps:=3000000) (disch:=omega) only[go_sem,g5,zG,zH,zaB,zcP];refine VCj.wr1 (gi a (mB m) (tB s i c (H.length+4) true)) (λL hL hG=>zjc i p n a L hL ha hn hp) (by simp(maxSteps:=3000000) (disch:=omega) only[go_sem]) (.inl rfl) rfl ?_;rw[si];cases h1:tkS p n a with
  | er e a1=>
   have he:=zeY h1;rw[h1,Rr.bind_er]at hres;simp only[rvS,Rr.at];have d0:((e:Int)+1 !=0)=true:=by simp;omega
   simp(maxSteps:=3000000) (disch:=omega) only[go_sem,g4,s4,zaI,zaM,zch,hlen,zjO,zbh];refine hK _ _ ?_;clear hK K;refine .g d0 ?_;refine .t ?_;refine .e ?_;refine .ret ⟨_,rfl,.inl ?_⟩;rw[<-hres];exact⟨rfl,a1,{ m with dl:=0 },s,om,hml,rfl⟩
  | ok d a1=>
   have hb:=zcG h1 ha;rw[h1,Rr.bind_ok]at hres;simp only[rvS,Rr.at];simp(maxSteps:=3000000) (disch:=omega) only[go_sem,g4,s4,zaI,zaM,zch,hlen,zjO,zbh];refine hK _ _ ?_;clear hK K;refine .e ?_;refine .us ?_;(repeat refine .seq ?_);refine .drawt [] [] mix kr λK hK=> ?_;simp(maxSteps:=3000000) (disch:=omega) only[go_sem,g5,g4,s5,zG,zH,zeI,zaB,zvr,zw8,zan,zcp,zaI,zaM,zuO];refine hK _ _ ?_;clear hK K;have qo1:=λK=>qo (s.q+d) K;cases hv:vqB (s.q+d)with
   | false=>
    rw[hv]at qo1 hres;rw[if_neg (by decide)]at hres;(repeat refine .seq ?_);refine .rg rfl λK hK=> ?_;simp(maxSteps:=3000000) (disch:=omega) only[go_sem,g5,zG,zH,zvr];refine VCx.call (qo1 _) rfl ?_;simp(maxSteps:=3000000) (disch:=omega) only[go_sem];refine hK _ _ ?_;clear hK K;refine .t ?_;refine .e ?_;refine .ret ⟨_,rfl,.inl ?_⟩;rw[<-hres];exact⟨rfl,a1,{ m with dl:=d },{ s with q:=s.q+d },hb.2.2,hml,rfl⟩
   | true=>rw[hv]at qo1 hres;rw[if_pos rfl]at hres;(repeat refine .seq ?_);refine .rg rfl λK hK=> ?_;simp(maxSteps:=3000000) (disch:=omega) only[go_sem,g5,zG,zH,zvr];refine VCx.call (qo1 _) rfl ?_;simp(maxSteps:=3000000) (disch:=omega) only[go_sem];refine hK _ _ ?_;clear hK K;refine .us ?_;refine .e ?_;refine .ret ⟨_,rfl,.inl ?_⟩;rw[<-hres];exact⟨rfl,rfl⟩
theorem zsZ(m:Mb)(s:St)(a:Nat)(hml:m.lv.length=384)(ha:a<=n):CallEx qA 140 [.ptr (H.length+5) 0 0] (tG H i p n a X (mB m) (tB s i c (H.length+4) hl)) (zoD H i p n X c hl ((zbz p n hl m a).bind λm a=>.ok (m,s) a)):=by
 have g5:=λa B4 B5=>zjj H i p n a X B4 B5 hX;have g4:=λa B4 B5=>zkF H i p n a X B4 B5 hX;have s5:=λa B4 B5 B=>zho H i p n a X B4 B5 hX B;have s4:=λa B4 B5 B=>zhp H i p n a X B4 B5 hX B;have gi:=λa B4 B5=>zlZ H i p n a X B4 B5 hi;have si:=λa B4 B5 a'=>zhn H i p n a X B4 B5 hi a';have hlen:=fun(m:Mb) (h:m.lv.length=384)=>zu m h;generalize hres:(zbz p n hl m a).bind (λm a=>Rr.ok (m,s) a)=res;unfold zbz at hres;refine CallEx.body (F0:=[(0,.ptr (H.length+5) 0 0)]) Tryz.func140 rfl Tryz.ntmps140 Tryz.results140 rfl kr rfl ?_;refine .e ?_;by_cases hk:m.k=2;rotate_left
 .have d2:(m.k !=2)=true:=by simp[hk]
  rw[decide_eq_false hk,Bool.false_and,if_neg (by decide),Rr.bind_ok]at hres;refine .f (λK k=>by simp(maxSteps:=3000000) (disch:=omega) only[go_sem,g5,g4,zG,zH,zaB,zkG,zaI,zaM,zdH,d2];exact k) ?_;refine .t ?_;refine .e ?_;refine .ret ⟨_,rfl,.inl ?_⟩;rw[<-hres];exact⟨rfl,rfl⟩
 have d2:(m.k !=2)=false:=by simp[hk]
 rw[decide_eq_true hk,Bool.true_and]at hres;cases hhl:hl with
 | false=>
  subst hhl;rw[if_neg (by decide),Rr.bind_ok]at hres;refine .f (λK k=>by simp(maxSteps:=3000000) (disch:=omega) only[go_sem,g5,g4,zG,zH,zaB,zkG,zaI,zaM,zdH,d2];exact k) ?_;refine .t ?_;refine .e ?_;refine .ret ⟨_,rfl,.inl ?_⟩;rw[<-hres];exact⟨rfl,rfl⟩
 | true=>
  subst hhl;rw[if_pos rfl]at hres;refine .f (λK k=>by simp(maxSteps:=3000000) (disch:=omega) only[go_sem,g5,g4,zG,zH,zaB,zkG,zaI,zaM,zdH,d2];exact k) ?_;refine .us ?_;refine .e ?_;refine .l ?_;suffices hl1:∀(k:Nat) (m1:Mb) (a1:Nat),k<=6->m1.lv.length=384->a1<=n->((zcV p n (6 - k) m1 a1).bind λm a=>Rr.ok (m,s) a)=res->PL qA _ _ [(0,.ptr (H.length+5) 0 0),(19,.int .i64 (k:Int))] (tG H i p n a1 X (mB m1) (tB s i c (H.length+4) true)) _ by exact .at [0,19] (hl1 0 m a om hml ha hres) rfl rfl
  clear hres hk d2 hml ha;intro k m1 a1 hk6 hml ha hres;induction hd:6 - k using qJ generalizing k m1 a1 with
  | _ d ih=>
   refine .round ?_;refine .e ?_;refine .c (λh=> ?_) (λh=> ?_);rotate_left
   .have h6:k=6:=by grind
    subst h6;refine .exit ?_;have hlm:=hlen m1 hml;have e6:=zxM m1;simp only[qL,zcV]at hres;cases hac:zgA m1 with
    | true=>
     rw[hac,if_pos rfl,Rr.bind_ok]at hres;rw[hac]at e6;refine .f (λK k=>by simp(maxSteps:=3000000) (disch:=omega) only[go_sem,g5,g4,zG,zH,zaB,zaI,zaM,zrn,hlm,↓e6,qD,qH];exact k) ?_;refine .us ?_;refine .e ?_;refine .ret ⟨_,rfl,.inl ?_⟩;rw[<-hres];exact⟨rfl,rfl⟩
    | false=>rw[hac,if_neg (by decide),Rr.bind_er]at hres;rw[hac]at e6;refine .f (λK k=>by simp(maxSteps:=3000000) (disch:=omega) only[go_sem,g5,g4,zG,zH,zaB,zaI,zaM,zrn,hlm,↓e6,qD,qH];exact k) ?_;refine .t ?_;refine .e ?_;refine .ret ⟨_,rfl,.inl ?_⟩;rw[<-hres];exact⟨rfl,a1,m1,s,ha,hml,rfl⟩
   have h6:k<6:=by grind
   obtain⟨n',hn'⟩:∃ n',6 - k=n'+1:=⟨5 - k,om⟩;have hkn:5 - n'=k:=om;rw[hn',zcV,hkn,Rr.bind_bind]at hres;have hnx:=λm1 a1=>ih (6 - (k+1)) om (k+1) m1 a1 om;rw[show 6 - (k+1)=n' from om]at hnx;have hlm:=hlen m1 hml;have hst:=λb=>zrj m1 k b h6;refine .skip ?_;refine .b ?_;refine .e ?_;(repeat refine .seq ?_);refine .drawi [i,H.length+4] [(26,[1]),(28,[0]),(32,[1]),(33,[1]),(34,[1])] [] [] mix kr (by simp<;>omega) λK hK=> ?_;simp(maxSteps:=3000000) (disch:=omega) only[go_sem,g5,zG,zH,zaB];refine VCj.wr1 (gi a1 (mB m1) (tB s i c (H.length+4) true)) (λL hL hG=>zfJ L (H.length+5) i p n a1 c s (H.length+4) true ((hG.out _ (by simp;omega)).trans (g5 _ _ _)) hL ha hn hp) (by simp(maxSteps:=3000000) (disch:=omega) only[go_sem]) (.inl rfl) rfl ?_;rw[si];cases hf:tkF p n a1 with
   | ok b a2=>
    obtain⟨rfl,h2,_⟩:=zdA hf;rw[hf,Rr.bind_ok]at hres;simp only[rvF,Rr.at];simp(maxSteps:=3000000) (disch:=omega) only[go_sem,g4,s4,zaI,zaM,zch,hlm,hst,zbh];refine hK _ _ ?_;clear hK K;refine .e ?_;refine .us ?_;refine .e ?_;exact .at [0,19] (hnx (zca m1 k b) (a1+1) (by rw[zdT];exact hml) om hres rfl) rfl rfl
   | er e a2=>obtain⟨rfl,rfl,h2⟩:=zgi hf;rw[hf,Rr.bind_er]at hres;simp only[rvF,Rr.at];simp(maxSteps:=3000000) (disch:=omega) only[go_sem,g4,s4,zaI,zaM,zch,hlm,hst,zbh];refine hK _ _ ?_;clear hK K;refine .e ?_;refine .t ?_;refine .e ?_;refine .ret ⟨_,rfl,.inl ?_⟩;rw[<-hres];exact⟨rfl,a2,zca m1 k false,s,ha,by rw[zdT];exact hml,rfl⟩
end
end Sc
namespace Sc
open Pm Ty Go.RowKit
def hdM(m:Mb):List PV:=[.int .i64 m.k,.bool m.ua,.bool m.ub,.bool m.fp,.bool m.fd,.int .i64 m.va,.int .i64 m.vb,.int .i64 m.vc,.int .i64 m.vd,.int .i64 m.ve,.int .i64 m.vf,.int .i64 m.vg,.int .i64 m.vh,.int .i64 m.sa,.int .i64 m.sb,.int .i64 m.sc,.int .i64 m.sd,.int .i64 m.dl,.bool m.ca,.bool m.cb,.bool m.cc,.bool m.cd,.bool m.ce,.bool m.cf]
theorem zfg(m:Mb):mbc m=hdM m++is m.lv:=rfl
theorem zfl(m:Mb):(hdM m).length=24:=rfl
theorem zvZ(m:Mb)(x:Nat):qG (24+x) (mbc m)=hdM m++is (m.lv.take x):=by rw[zfg,List.take_append,zfl,qK (by rw[zfl];omega),show 24+x - 24=x from om,zdr]
theorem zrm(m:Mb)(x:Nat):qI (24+x) (mbc m)=is (m.lv.drop x):=by simp_all[zfg,List.drop_append,zfl,qR,zek]
theorem zT(m:Mb)(k:Nat)(l:List Int)(hk:k<6)(hl:l.length=64)(hm:m.lv.length=384):(zaK m k l).lv.length=384:=by grind[zaK,List.length_append,List.length_take,List.length_drop]
theorem zmC(m:Mb)(k:Nat)(l:List Int):qG (24+k * 64) (mbc m)++(is l++qI (24+k * 64+64) (mbc m))=mbc (zaK m k l):=by rw[zvZ,show 24+k * 64+64=24+(k * 64+64)from om,zrm,zfg];show _=hdM m++is (m.lv.take (k * 64)++l++m.lv.drop (k * 64+64));simp_all[zoW,qO]
theorem zrk(m:Mb)(k:Nat)(l:List Int)(hk:k<6)(hl:l.length=64)(hm:m.lv.length=384):qG 64 (qI (24+k * 64) (mbc (zaK m k l)))=is l:=by grind[zrm,zdr,List.length_take,zaK,qO,List.drop_left',List.take_left']
theorem zmD(m:Mb)(k:Nat)(l:List Int)(d:Int)(hk:k<6)(hl:l.length=64)(hm:m.lv.length=384):(mbc (zaK m k l)).set (24+k * 64) (.int .i64 d)=mbc (zaK m k (l.set 0 d)):=by
 have h1:(m.lv.take (k * 64)).length=k * 64:=by grind
 rw[zfg,zfg,qF _ _ (by rw[zfl];omega),zfl,show 24+k * 64 - 24=k * 64 from om,zaG];simp_all[hdM,zaK,qO,qF,qL,qM]
theorem tC_d(s:St)(w:Nat)(c:Cx)(mi:Nat)(hl:Bool)(q:Nat)(h:q<3):(tC s w c mi hl)[1+q]? =some (.int .i64 (dcS s q)):=by have:q=0\/q=1\/q=2:=om;rcases this with rfl|rfl|rfl<;>rfl
theorem zw9(s:St)(w:Nat)(c:Cx)(mi:Nat)(hl:Bool)(q:Nat)(h:q<3)(x:Int):(tC s w c mi hl).set (1+q) (.int .i64 x)=tC (zdi s q x) w c mi hl:=by have:q=0\/q=1\/q=2:=om;rcases this with rfl|rfl|rfl<;>rfl
theorem zt4(s:St)(q:Nat)(x:Int)(h:q<3):dcS (zdi s q x) q=x:=by have:q=0\/q=1\/q=2:=om;rcases this with rfl|rfl|rfl<;>rfl
theorem zuJ(l:List Int)(h:l.length=64):ze9 (.int .i64) (is l) [.int .i64 0,.int .i64 0,.int .i64 0,.int .i64 0,.int .i64 0,.int .i64 0,.int .i64 0,.int .i64 0,.int .i64 0,.int .i64 0,.int .i64 0,.int .i64 0,.int .i64 0,.int .i64 0,.int .i64 0,.int .i64 0,.int .i64 0,.int .i64 0,.int .i64 0,.int .i64 0,.int .i64 0,.int .i64 0,.int .i64 0,.int .i64 0,.int .i64 0,.int .i64 0,.int .i64 0,.int .i64 0,.int .i64 0,.int .i64 0,.int .i64 0,.int .i64 0,.int .i64 0,.int .i64 0,.int .i64 0,.int .i64 0,.int .i64 0,.int .i64 0,.int .i64 0,.int .i64 0,.int .i64 0,.int .i64 0,.int .i64 0,.int .i64 0,.int .i64 0,.int .i64 0,.int .i64 0,.int .i64 0,.int .i64 0,.int .i64 0,.int .i64 0,.int .i64 0,.int .i64 0,.int .i64 0,.int .i64 0,.int .i64 0,.int .i64 0,.int .i64 0,.int .i64 0,.int .i64 0,.int .i64 0,.int .i64 0,.int .i64 0,.int .i64 0]=some (decide (l=z64)):=by
 have hp:=ze8 .i64 l z64 (by simp[z64,h]);have dz:(l==z64)=decide (l=z64):=by grind
 rw[dz]at hp;exact hp
section
variable (H:za) (i:Nat) (p:List UInt8) (n:Nat) (X:za) (c:Cx) (hl:Bool) (hi:i<H.length) (hX:X.length=4) (hn:n<=8 * p.length) (hp:p.length<=100000000)
include hi hX hn hp
theorem zsT(m:Mb)(s:St)(a:Nat)(hml:m.lv.length=384)(hs:dcR s)(ha:a<=n):CallEx qA 141 [.ptr (H.length+5) 0 0] (tG H i p n a X (mB m) (tB s i c (H.length+4) hl)) (zoD H i p n X c hl (zaA p n 6 m s a)):=by
 have g5:=λa B4 B5=>zjj H i p n a X B4 B5 hX;have g4:=λa B4 B5=>zkF H i p n a X B4 B5 hX;have s5:=λa B4 B5 B=>zho H i p n a X B4 B5 hX B;have s4:=λa B4 B5 B=>zhp H i p n a X B4 B5 hX B;have gi:=λa B4 B5=>zlZ H i p n a X B4 B5 hi;have si:=λa B4 B5 a'=>zhn H i p n a X B4 B5 hi a';have hlen:=fun(m:Mb) (h:m.lv.length=384)=>zu m h;have hfg:=λk (hk:k<6)=>zmM (cdl m) k hk;have hcl:(fs (cdl m)).length=6:=rfl;have co:=λk hk K=>zwz k K hk;have hzl:z64.length=64:=by simp[z64]
 generalize hres:zaA p n 6 m s a=res;have hlm:=hlen m hml;refine CallEx.body (F0:=[(0,.ptr (H.length+5) 0 0)]) Tryz.func141 rfl Tryz.ntmps141 Tryz.results141 rfl kr rfl ?_;refine .e ?_;refine .f (λK k=>by simp(maxSteps:=3000000) (disch:=omega) only[go_sem,g5,g4,zG,zH,zaB,zaI,zaM,zrn,hlm,qD,qH];exact k) ?_;refine .l ?_;suffices hl1:∀(k:Nat) (m1:Mb) (s1:St) (a1:Nat),k<=6->m1.lv.length=384->cdl m1=cdl m->dcR s1->a1<=n->zaA p n (6 - k) m1 s1 a1=res->PL qA _ _ [(0,.ptr (H.length+5) 0 0),(13,.agg (fs (cdl m))),(14,.int .i64 (k:Int))] (tG H i p n a1 X (mB m1) (tB s1 i c (H.length+4) hl)) _ by exact .at [0,13,14] (hl1 0 m s a om hml rfl hs ha hres) rfl rfl
 clear hres hml ha hs hlm;intro k m1 s1 a1 hk6 hml hcd hs ha hres;induction hd:6 - k using qJ generalizing k m1 s1 a1 with
 | _ d ih=>
  refine .round ?_;refine .e ?_;refine .c (λh=> ?_) (λh=> ?_);rotate_left
  .have h6:k=6:=by grind
   subst h6;refine .exit ?_;simp only[qL,zaA]at hres;refine .e ?_;refine .ret ⟨_,rfl,.inl ?_⟩;rw[<-hres];exact⟨rfl,rfl⟩
  have h6:k<6:=by grind
  obtain⟨n',hn'⟩:∃ n',6 - k=n'+1:=⟨5 - k,om⟩;have hkn:5 - n'=k:=om;rw[hn',zaA,hkn,hcd]at hres;have hnx:=λm1 s1 a1=>ih (6 - (k+1)) om (k+1) m1 s1 a1 om;rw[show 6 - (k+1)=n' from om]at hnx;have hlm:=hlen m1 hml;have hgx:=hfg k h6;refine .skip ?_;refine .b ?_;refine .g (nq2 hgx hcl) ?_;generalize zN (cdl m) k=fg at *;refine .e ?_;cases fg with
  | false=>
   rw[if_neg (by decide)]at hres;refine .t ?_;refine .exit ?_;refine .e ?_;exact .at [0,13,14] (hnx m1 s1 a1 hml hcd hs ha hres rfl) rfl rfl
  | true=>
   rw[if_pos rfl]at hres;refine .us ?_;refine .f (λK k=>by simp(maxSteps:=3000000) (disch:=omega) only[go_sem,g5,g4,zG,zH,zaB,zaI];exact k) ?_;refine .f (λK k=>by simp(maxSteps:=3000000) (disch:=omega) only[go_sem,g5,g4,zG,zH,zaB,zaI,zaM,zdH];exact k) ?_;have hsL:=λm l=>zmC m k l;have hq3:k - 3<3:=om;by_cases hk:m1.k=2
   .rw[if_pos hk]at hres;have d1:(m1.k==2)=true:=by simp[hk]
    have bt:=zlE i p n a1 0 _ (gi a1 (mB m1) (tB s1 i c (H.length+4) hl)) ha hn hp om;rw[si]at bt;rw[d1];refine .t ?_;cases hb:zcW p n 0 a1 with
    | er e a2=>
     have hbe:=zkC _ _ _ _ hb ha;rw[hb]at bt hres;simp only[rvB,Rr.at]at bt;rw[Rr.bind_er]at hres;have hil:(is z64).length=64:=by rfl
     have hic:=zt z64;have d0:((e:Int)+1 !=0)=true:=by simp;omega
     have d9:=zT m1 k z64 h6 hzl hml;generalize hZ:is z64=Z at *;refine .f (λK k=>by simp(maxSteps:=3000000) (disch:=omega) only[go_sem,g5,g4,s4,zG,zH,zcP,zaI,zaM,zch,hlm,hil,hic];refine VCx.call (bt) rfl ?_;simp(maxSteps:=3000000) (disch:=omega) only[go_sem,g5,g4,s4,zG,zH,zcP,zaI,zaM,zch,hlm,hil,hic];exact k) ?_;rw[<-hZ];simp only[hsL,zbh];refine .g d0 ?_;refine .t ?_;refine .e ?_;refine .ret ⟨_,rfl,.inl ?_⟩;rw[<-hres];exact⟨rfl,a2,zaK m1 k z64,s1,om,d9,rfl⟩
    | ok l a2=>
     have hbo:=ze0 _ _ _ _ hb ha;have hll:l.length=64:=om;rw[hb]at bt hres;simp only[rvB,Rr.at]at bt;rw[Rr.bind_ok]at hres;have hil:(is l).length=64:=by rw[zj,hll]
     have hic:=zt l;have d9:=zT m1 k l h6 hll hml;have hlm9:=hlen _ d9;have hgl:=zrk m1 k l h6 hll hml;have ez:=zuJ l hll;refine .f (λK k=>by simp(maxSteps:=3000000) (disch:=omega) only[go_sem,g5,g4,s4,zG,zH,zcP,zaI,zaM,zch,hlm,hil,hic];refine VCx.call (bt) rfl ?_;simp(maxSteps:=3000000) (disch:=omega) only[go_sem,g5,g4,s4,zG,zH,zcP,zaI,zaM,zch,hlm,hil,hic];exact k) ?_;simp only[hsL,zbh];refine .e ?_;refine .us ?_;by_cases hz:l=z64
     .rw[if_pos hz]at hres;rw[decide_eq_true hz]at ez;refine .f (λK k=>by simp(maxSteps:=3000000) (disch:=omega) only[go_sem,g4,zaI,zaM,hlm9,hgl,hil,ez];exact k) ?_;refine .t ?_;refine .e ?_;refine .ret ⟨_,rfl,.inl ?_⟩;rw[<-hres];exact⟨rfl,a2,zaK m1 k l,s1,hbo.2.1,d9,rfl⟩
     .rw[if_neg hz]at hres;rw[decide_eq_false hz]at ez;refine .f (λK k=>by simp(maxSteps:=3000000) (disch:=omega) only[go_sem,g4,zaI,zaM,hlm9,hgl,hil,ez];exact k) ?_;refine .us ?_;refine .exit ?_;refine .e ?_;exact .at [0,13,14] (hnx (zaK m1 k l) s1 a2 d9 hcd hs hbo.2.1 hres rfl) rfl rfl
   .rw[if_neg hk]at hres;have d1:(m1.k==2)=false:=by simp[hk]
    rw[d1];refine .us ?_;have con:=co k h6;have pdc:=λs=>tC_d s i c (H.length+4) hl (k - 3) hq3;have psd:=λs x=>zw9 s i c (H.length+4) hl (k - 3) hq3 x;have hsk:=hs (k - 3);(repeat refine .seq ?_);refine .draw mix kr λK hK=> ?_;simp(maxSteps:=3000000) (disch:=omega) only[go_sem];refine VCy.call (con _) rfl ?_;simp(maxSteps:=3000000) (disch:=omega) only[go_sem,g5,zG];refine hK _ _ ?_;clear hK K;have td:=zhm H i p n a1 X (mB m1) c s1 hl hi hX ha hn hp (dcS s1 (k - 3)) 4095 om hsk;cases h1:tkD p n (dcS s1 (k - 3)) 4095 a1 with
    | er e a2=>
     have hb:=zpM h1 ha;rw[h1]at td hres;simp only[rvS,Rr.at]at td;rw[Rr.bind_er]at hres;have d0:((e:Int)+1 !=0)=true:=by simp;omega
     refine .f (λK k=>by simp(maxSteps:=3000000) (disch:=omega) only[go_sem,g5,zG,zH,pdc,s5,psd,zeI,zcp,zan];refine VCx.call (td) rfl ?_;simp(maxSteps:=3000000) (disch:=omega) only[go_sem,g5,zG,zH,pdc,s5,psd,zeI,zcp,zan];exact k) ?_;refine .g d0 ?_;refine .t ?_;refine .e ?_;refine .ret ⟨_,rfl,.inl ?_⟩;rw[<-hres];exact⟨rfl,a2,m1,zdi s1 (k - 3) 0,om,hml,rfl⟩
    | ok x a2=>
     have hb:=zhi h1 ha;rw[h1]at td hres;simp only[rvS,Rr.at]at td;rw[Rr.bind_ok]at hres;refine .f (λK k=>by simp(maxSteps:=3000000) (disch:=omega) only[go_sem,g5,zG,zH,pdc,s5,psd,zeI,zcp,zan];refine VCx.call (td) rfl ?_;simp(maxSteps:=3000000) (disch:=omega) only[go_sem,g5,zG,zH,pdc,s5,psd,zeI,zcp,zan];exact k) ?_;refine .e ?_;refine .us ?_;have hs2:=znZ hs (k - 3) (x:=x) om;have pd2:=pdc (zdi s1 (k - 3) x);rw[zt4 _ _ _ hq3]at pd2;have bt:=zlE i p n a2 1 _ (gi a2 (mB m1) (tB (zdi s1 (k - 3) x) i c (H.length+4) hl)) hb.2.2 hn hp om;rw[si]at bt;cases hbk:zcW p n 1 a2 with
     | er e a3=>
      have hbe:=zkC _ _ _ _ hbk hb.2.2;rw[hbk]at bt hres;simp only[rvB,Rr.at]at bt;rw[Rr.bind_er]at hres;have hil:(is z64).length=64:=by rfl
      have hic:=zt z64;have d0:((e:Int)+1 !=0)=true:=by simp;omega
      have d9:=zT m1 k z64 h6 hzl hml;generalize hZ:is z64=Z at *;refine .f (λK k=>by simp(maxSteps:=3000000) (disch:=omega) only[go_sem,g5,g4,s4,zG,zH,zcP,zaI,zaM,zch,hlm,hil,hic];refine VCx.call (bt) rfl ?_;simp(maxSteps:=3000000) (disch:=omega) only[go_sem,g5,g4,s4,zG,zH,zcP,zaI,zaM,zch,hlm,hil,hic];exact k) ?_;rw[<-hZ];simp only[hsL,zbh];refine .g d0 ?_;refine .t ?_;refine .e ?_;refine .ret ⟨_,rfl,.inl ?_⟩;rw[<-hres];exact⟨rfl,a3,zaK m1 k z64,zdi s1 (k - 3) x,om,d9,rfl⟩
     | ok l a3=>
      have hbo:=ze0 _ _ _ _ hbk hb.2.2;have hll:l.length=64:=om;rw[hbk]at bt hres;simp only[rvB,Rr.at]at bt;rw[Rr.bind_ok]at hres;have hil:(is l).length=64:=by rw[zj,hll]
      have hic:=zt l;have d9:=zT m1 k l h6 hll hml;have hlm9:=hlen _ d9;have hs0:=zmD m1 k l x h6 hll hml;have d8:=zT m1 k (l.set 0 x) h6 (by rw[qB];exact hll) hml;refine .f (λK k=>by simp(maxSteps:=3000000) (disch:=omega) only[go_sem,g5,g4,s4,zG,zH,zcP,zaI,zaM,zch,hlm,hil,hic];refine VCx.call (bt) rfl ?_;simp(maxSteps:=3000000) (disch:=omega) only[go_sem,g5,g4,s4,zG,zH,zcP,zaI,zaM,zch,hlm,hil,hic];exact k) ?_;simp only[hsL,zbh];refine .e ?_;refine .us ?_;(repeat refine .seq ?_);refine .drawt [] [] mix kr λK hK=> ?_;simp(maxSteps:=3000000) (disch:=omega) only[go_sem,g5,g4,s4,zG,zH,pd2,zaI,zaM,zch,hlm9,hs0,zbh];refine hK _ _ ?_;clear hK K;refine .e ?_;exact .at [0,13,14] (hnx (zaK m1 k (l.set 0 x)) (zdi s1 (k - 3) x) a3 d8 hcd hs2 hbo.2.1 hres rfl) rfl rfl
end
end Sc
namespace Sc
open Pm Ty Go.RowKit
def zdp(c:Cx)(s:St)(q:List UInt8)(n a:Nat):Rr (Mb×St):=if vcx c&&zfG s then mtk c s q n a else .er 0 a
def rvM:Rr (Mb×St)->PV
 | .ok y _=>.tup [.agg (mbc y.1),.agg (stc y.2),.int .i64 0]
 | .er e _=>.tup [.agg zmv,.agg (stc zSt),ecd e]
def zxC(H:za)(i:Nat)(p:List UInt8)(n:Nat)(x:Rr (Mb×St)):PV->za->Prop:=λv H'=>v=rvM x/\
 match x with
 | .ok _ a=>H'=H.set i (rA p n a)
 | .er _ _=>∃ a,a<=n/\H'=H.set i (rA p n a)
theorem znE(k:Nat)(m:Mb):∀ x∈mbc m,Scoped k x:=λx hx=>mbl_sc0 k m x hx
where
 mbl_sc0 (n:Nat) (m:Mb):∀ x∈mbc m,Scoped n x:=λx hx=>by simp only[mbc,qN]at hx;rcases hx with rfl|rfl|rfl|rfl|rfl|rfl|rfl|rfl|rfl|rfl|rfl|rfl|rfl|rfl|rfl|rfl|rfl|rfl|rfl|rfl|rfl|rfl|rfl|rfl|hx;all_goals first|exact .int _ _|exact .bool _|exact zZ _ _ _ hx
theorem zqn(k:Nat)(x:Rr (Mb×St)):Scoped k (rvM x):=by
 cases x with
 | ok y a=>
  refine .tup (zO λx hx=> ?_);simp only[qN,List.not_mem_nil,or_false]at hx;rcases hx with rfl|rfl|rfl
  .exact zq (znE _ _)
  .exact zdg _ _
  .exact .int _ _
 | er e a=>
  refine .tup (zO λx hx=> ?_);simp only[qN,List.not_mem_nil,or_false]at hx;rcases hx with rfl|rfl|rfl
  .exact zq (znE _ _)
  .exact zdg _ _
  .exact .int _ _
theorem zi2:zaz qA 109=some zmv:=kr
theorem zdb:zmv.length=408:=zu zMb zV
theorem zeW:zmv.all PV.cell=true:=zcu zMb
theorem zhj{c:Cx}{p:List UInt8}{n:Nat}{hl:Bool}{m:Mb}{s:St}{a:Nat}{y:Mb×St}{a1:Nat}(h:zbC c p n hl m s a= .ok y a1)(ha:a<=n):a1<=n/\y.1.lv=m.lv/\(s.da=y.2.da/\s.db=y.2.db/\s.dc=y.2.dc):=by
 unfold zbC at h;split at h
 .suffices hr:∀(m':Mb) (a':Nat),m'.lv=m.lv->a'<=n->((tkS p n a').bind λd a2=>if vqB (s.q+d)then .ok ({ m' with dl:=d },{ s with q:=s.q+d }) a2 else .er 2 a2)= .ok y a1->a1<=n/\y.1.lv=m.lv/\(s.da=y.2.da/\s.db=y.2.db/\s.dc=y.2.dc) by
   split at h
   .cases hf:tkF p n a with
    | er e a2=>rw[hf]at h;cases h
    | ok b a2=>have:=zdA hf;rw[hf,Rr.bind_ok,Rr.bind_ok]at h;exact hr { m with fd:=b } a2 rfl om h
   grind[Rr.bind_ok]
  intro m' a' hm' ha' h;cases h1:tkS p n a' with
  | er e a2=>rw[h1]at h;cases h
  | ok d a2=>have b1:=zcG h1 ha';grind[Rr.bind_ok]
 grind
theorem zs7(m:Mb)(n:Nat)(b:Bool):(zca m n b).k=m.k:=by grind[zca]
theorem zpO{p:List UInt8}{n:Nat}:∀(r:Nat) (m:Mb) (a:Nat) {m':Mb} {a1:Nat},zcV p n r m a= .ok m' a1->a<=n->a1<=n/\m'.lv=m.lv/\m'.k=m.k
 | 0,m,a,m',a1,h,ha=>by
  grind[zcV]
 | r+1,m,a,m',a1,h,ha=>by
  simp only[zcV]at h;cases hf:tkF p n a with
  | er e a2=>rw[hf]at h;cases h
  | ok b a2=>have hb:=zdA hf;rw[hf,Rr.bind_ok]at h;obtain⟨c1,c2,c3⟩:=zpO r _ _ h om;simp_all[zdT,zs7]
theorem zji{p:List UInt8}{n:Nat}{hl:Bool}{m:Mb}{a:Nat}{m':Mb}{a1:Nat}(h:zbz p n hl m a= .ok m' a1)(ha:a<=n):a1<=n/\m'.lv=m.lv/\m'.k=m.k:=by
 unfold zbz at h;split at h
 .exact zpO _ _ _ h ha
 simp_all
theorem zlX{c:Cx}{p:List UInt8}{n:Nat}:∀(r d:Nat) (m:Mb) (s:St) (a:Nat) {y:Mb×St} {a1:Nat},zbq c p n r d m s a= .ok y a1->a<=n->vrS s->a1<=n/\SameU m y.1/\vrS y.2
 | 0,d,m,s,a,y,a1,h,ha,hs=>by
  simp only[zbq]at h;injection h with e1 e2;subst e1 e2;exact⟨ha,.refl m,hs⟩
 | r+1,d,m,s,a,y,a1,h,ha,hs=>by
  simp only[zbq]at h;cases h1:zdI c p n m s d a with
  | er e a2=>rw[h1]at h;cases h
  | ok x a2=>obtain⟨b1,b2,b3⟩:=zvp h1 ha hs;rw[h1,Rr.bind_ok]at h;obtain⟨c1,c2,c3⟩:=zlX r (d+1) x.1 x.2 a2 h b1 b3;exact⟨c1,b2.trans c2,c3⟩
theorem zvk{c:Cx}{p:List UInt8}{n:Nat}{m:Mb}{s:St}{d k a:Nat}{y:Mb×St}{a1:Nat}(h:zcO c p n m s d k a= .ok y a1):SameQ s y.2:=by
 unfold zcO at h;suffices hr:∀(m':Mb) (a':Nat),((tkD p n (sXs s d) 63 a').bind λx a2=>(tkD p n (sYs s d) 63 a2).bind λy a3=>.ok (zaJ m' d k x y,zbr s d x y) a3)= .ok y a1->SameQ s y.2 by
  split at h
  .cases hf:tkF p n a with
   | er e a2=>rw[hf]at h;cases h
   | ok b a2=>rw[hf,Rr.bind_ok,Rr.bind_ok]at h;exact hr _ _ h
  .rw[Rr.bind_ok]at h;exact hr _ _ h
 intro m' a' h;cases h1:tkD p n (sXs s d) 63 a' with
 | er e a2=>rw[h1]at h;cases h
 | ok x a2=>
  rw[h1,Rr.bind_ok]at h;cases h2:tkD p n (sYs s d) 63 a2 with
  | er e a3=>rw[h2]at h;cases h
  | ok z a3=>grind[Rr.bind_ok,SameQ,zbr]
theorem zpD{c:Cx}{p:List UInt8}{n d:Nat}:∀(r k:Nat) (m:Mb) (s:St) (a:Nat) {y:Mb×St} {a1:Nat},zaY c p n d r k m s a= .ok y a1->SameQ s y.2
 | 0,k,m,s,a,y,a1,h=>by
  simp only[zaY]at h;injection h with e1 e2;subst e1;exact⟨rfl,rfl,rfl,rfl⟩
 | r+1,k,m,s,a,y,a1,h=>by
  simp only[zaY]at h;cases h1:zcO c p n m s d k a with
  | er e a2=>rw[h1]at h;cases h
  | ok x a2=>rw[h1,Rr.bind_ok]at h;exact(zvk h1).trans (zpD r (k+1) x.1 x.2 a2 h)
theorem zlW{c:Cx}{p:List UInt8}{n:Nat}:∀(r d:Nat) (m:Mb) (s:St) (a:Nat) {y:Mb×St} {a1:Nat},zbq c p n r d m s a= .ok y a1->SameQ s y.2
 | 0,d,m,s,a,y,a1,h=>by
  simp only[zbq]at h;injection h with e1 e2;subst e1;exact⟨rfl,rfl,rfl,rfl⟩
 | r+1,d,m,s,a,y,a1,h=>by
  simp only[zbq]at h;cases h1:zdI c p n m s d a with
  | er e a2=>rw[h1]at h;cases h
  | ok x a2=>
   rw[h1,Rr.bind_ok]at h;refine SameQ.trans ?_ (zlW r (d+1) x.1 x.2 a2 h);unfold zdI at h1;split at h1
   .exact zpD _ _ _ _ _ h1
   .injection h1 with e1 e2;subst e1;exact⟨rfl,rfl,rfl,rfl⟩
theorem zjg{c:Cx}{p:List UInt8}{n:Nat}{m:Mb}{s:St}{a:Nat}{y:Mb×St}{a1:Nat}(h:zbp c p n m s a= .ok y a1)(ha:a<=n)(hs:vrS s):a1<=n/\y.1.lv=m.lv/\y.1.k=m.k/\SameQ s y.2:=by
 unfold zbp at h;split at h
 .split at h
  .cases hf:tkF p n a with
   | er e a2=>rw[hf]at h;cases h
   | ok b a2=>have:=zdA hf;rw[hf,Rr.bind_ok,Rr.bind_ok]at h;obtain⟨c1,c2,c3⟩:=zlX _ _ _ _ _ h om hs;exact⟨c1,c2.1,c2.2.2.2.2,zlW _ _ _ _ _ h⟩
  .rw[Rr.bind_ok]at h;obtain⟨c1,c2,c3⟩:=zlX _ _ _ _ _ h ha hs;exact⟨c1,c2.1,c2.2.2.2.2,zlW _ _ _ _ _ h⟩
 .injection h with e1 e2;subst e1 e2;exact⟨ha,rfl,rfl,rfl,rfl,rfl,rfl⟩
theorem zjh{c:Cx}{p:List UInt8}{n a:Nat}{x:Mb×Bool}{a1:Nat}(h:zbW c p n a= .ok x a1)(ha:a<=n):a1<=n/\x.1.lv=zl384:=by
 unfold zbW at h;split at h
 .injection h with e1 e2;subst e1 e2;exact⟨ha,rfl⟩
 .cases hu:tkU p n a with
  | er e a2=>rw[hu]at h;cases h
  | ok v a2=>
   have hb:=zdz hu ha;rw[hu,Rr.bind_ok]at h;generalize (if c.t=2 then 3 else 7:Nat)=last at h;split at h
   .cases h
   .split at h
    .injection h with e1 e2;subst e1 e2;exact⟨hb.2.2,rfl⟩
    .split at h
     .injection h with e1 e2;subst e1 e2;exact⟨hb.2.2,rfl⟩
     .injection h with e1 e2;subst e1 e2;exact⟨hb.2.2,rfl⟩
theorem zeH{p:List UInt8}{n:Nat}:∀(r:Nat) (m:Mb) (s:St) (a:Nat) {y:Mb×St} {a1:Nat},zaA p n r m s a= .ok y a1->a<=n->r<=6->m.lv.length=384->a1<=n/\y.1.lv.length=384/\y.1.k=m.k
 | 0,m,s,a,y,a1,h,ha,hr,hm=>by
  grind[zaA]
 | r+1,m,s,a,y,a1,h,ha,hr,hm=>by
  have hzl:z64.length=64:=by simp[z64]
  simp only[zaA]at h;split at h
  .split at h
   .cases h1:zcW p n 0 a with
    | er e a2=>rw[h1]at h;cases h
    | ok l a2=>
     have hb:=ze0 _ _ _ _ h1 ha;rw[h1,Rr.bind_ok]at h;split at h
     .cases h
     .exact zeH r (zaK m (5 - r) l) s a2 h hb.2.1 om (zT _ _ _ om (by rw[hb.2.2,hzl]) hm)
   .cases h1:tkD p n (dcS s (5 - r - 3)) 4095 a with
    | er e a2=>rw[h1]at h;cases h
    | ok d a2=>
     have hb:=zhi h1 ha;rw[h1,Rr.bind_ok]at h;cases h2:zcW p n 1 a2 with
     | er e a3=>rw[h2]at h;cases h
     | ok l a3=>have hb2:=ze0 _ _ _ _ h2 hb.2.2;rw[h2,Rr.bind_ok]at h;exact zeH r (zaK m (5 - r) (l.set 0 d)) _ a3 h hb2.2.1 om (zT _ _ _ om (by rw[qB,hb2.2.2,hzl]) hm)
  .exact zeH r m s a h ha om hm
theorem zlV(H:za)(i:Nat)(p:List UInt8)(n a:Nat)(K:za)(x:Rr (Mb×St))(hx:match x with| .ok _ a'=>a=a'| .er _ _=>a<=n):zm1 H (zxC H i p n x) (rvM x) (H.set i (rA p n a)++K):=
 .inr (.inr λhs=>⟨rvM x,H.set i (rA p n a),by
  cases x with
  | ok y a'=>exact⟨rfl,by rw[show a=a' from hx]⟩
  | er e a'=>exact⟨rfl,a,hx,rfl⟩,by simp,CutH.base (zd4 _ _ _ _ _ hs),.id (zqn _ _)⟩)
theorem zpJ{c:Cx}{p:List UInt8}{n a e a1:Nat}(h:zbW c p n a= .er e a1)(ha:a<=n):a1<=n:=by
 unfold zbW at h;split at h
 .cases h
 .cases hu:tkU p n a with
  | er e2 a2=>rw[hu]at h;have:=zgh hu;injection h with h1 h2;omega
  | ok v a2=>have hb:=zdz hu ha;grind[Rr.bind_ok]
theorem zux(H:za)(i:Nat)(p:List UInt8)(n a:Nat)(X:za)(B4 B5:Blk)(j:Nat)(hX:X.length=4)(hj:j<4):(tG H i p n a X B4 B5)[H.length+j]? =X[j]? :=by simp_all[tG,qE,qB,qQ]
theorem zuw(H:za)(i:Nat)(p:List UInt8)(n a:Nat)(X:za)(B4 B5 B:Blk)(j:Nat)(hX:X.length=4)(hj:j<4):(tG H i p n a X B4 B5).set (H.length+j) B=tG H i p n a (X.set j B) B4 B5:=by simp_all[tG,qF,qB,qM]
def Rk(c:Cx)(q:List UInt8)(n:Nat):Nat->Mb->St->Bool->Nat->Rr (Mb×St)
 | 0,_,s,_,a=>mtk c s q n a
 | 1,m,s,hl,a=>zjf c q n hl m s a
 | 2,m,s,hl,a=>(zbC c q n hl m s a).bind λz a3=>(zbz q n hl z.1 a3).bind λm a4=>(zaA q n 6 m z.2 a4).bind λw a5=>.ok (w.1,aft w.2 w.1.k) a5
 | 3,m,s,hl,a=>(zbz q n hl m a).bind λm a4=>(zaA q n 6 m s a4).bind λw a5=>.ok (w.1,aft w.2 w.1.k) a5
 | 4,m,s,_,a=>(zaA q n 6 m s a).bind λw a5=>.ok (w.1,aft w.2 w.1.k) a5
 | _,m,s,_,a=>.ok (m,aft s m.k) a
structure Sd(n k:Nat)(m:Mb)(s:St)(hl:Bool)(a:Nat):Prop where
 l:m.lv.length=384
 a:a<=n
 z:k=0->m=zMb/\hl=false
 v:k<=1->vrS s
 q:k<=2->1<=s.q/\s.q<=31
 d:k<=4->dcR s
def prts:List PV:=[.func 137 [] [],.func 138 [] [],.func 139 [] [],.func 140 [] [],.func 141 [] []]
def zxt(H:za)(i:Nat)(p:List UInt8)(n:Nat)(X:za)(c:Cx)(k:Nat)(res:Rr (Mb×St)):PV->za->Prop:=λv H'=>
 (∃ m s hl a,v= .int .i64 0/\Sd n (k+1) m s hl a/\Rk c p n (k+1) m s hl a=res/\H'=tG H i p n a X (mB m) (tB s i c (H.length+4) hl))\/
 (∃ e a0,res= .er e a0/\v=ecd e/\∃ a m s hl,a<=n/\m.lv.length=384/\H'=tG H i p n a X (mB m) (tB s i c (H.length+4) hl))
theorem zjA{H:za}{i:Nat}{p:List UInt8}{n:Nat}{X:za}{c:Cx}{k:Nat}{res:Rr (Mb×St)}{hl:Bool}{x:Rr (Mb×St)}(hok:∀ y a,x= .ok y a->Sd n (k+1) y.1 y.2 hl a/\Rk c p n (k+1) y.1 y.2 hl a=res)(her:∀ e a,x= .er e a->∃ a0,res= .er e a0)(v:PV)(H':za)(h:zoD H i p n X c hl x v H'):zxt H i p n X c k res v H':=by
 cases x with
 | ok y a=>
  obtain⟨h1,h2⟩:=hok y a rfl;exact .inl ⟨y.1,y.2,hl,a,h.1,h1,h2,h.2⟩
 | er e a=>obtain⟨a0,h0⟩:=her e a rfl;obtain⟨h1,a1,m,s,h2,h3,h4⟩:=h;exact .inr ⟨e,a0,h0,h1,a1,m,s,hl,h2,h3,h4⟩
theorem disp(H:za)(i:Nat)(p:List UInt8)(n:Nat)(X:za)(c:Cx)(hi:i<H.length)(hX:X.length=4)(hn:n<=8 * p.length)(hp:p.length<=100000000)(k:Nat)(hk:k<5)(m:Mb)(s:St)(hl:Bool)(a:Nat)(res:Rr (Mb×St))(hS:Sd n k m s hl a)(hR:Rk c p n k m s hl a=res):
  ∃ f,prts[k]? =some (.func f [] [])/\CallEx qA f [.ptr (H.length+5) 0 0] (tG H i p n a X (mB m) (tB s i c (H.length+4) hl)) (zxt H i p n X c k res):=by
 obtain⟨hl384,ha,hz,hv,hq,hd⟩:=hS;have h5:k=0\/k=1\/k=2\/k=3\/k=4:=om;rcases h5 with rfl|rfl|rfl|rfl|rfl
 .obtain⟨rfl,rfl⟩:=hz rfl;refine⟨_,rfl,(zpC H i p n a X c s hi hX ha hn hp).toEx.mono λv H' h=> ?_⟩;obtain⟨rfl,rfl⟩:=h;simp only[Rk,mtk]at hR;cases hk:zbW c p n a with
  | ok x a1=>
   rw[hk,Rr.bind_ok]at hR;obtain⟨b1,b2⟩:=zjh hk ha;exact .inl ⟨x.1,s,x.2,a1,rfl,⟨by rw[b2];exact zV,b1,λe=>om,λ_=>hv om,λ_=>hq om,λ_=>hd om⟩,hR,rfl⟩
  | er e a1=>rw[hk,Rr.bind_er]at hR;refine .inr ⟨e,a1,hR.symm,rfl,a1,zMb,s,false,?_,hl384,rfl⟩;exact zpJ hk ha
 .refine⟨_,rfl,(zpA H i p n X c hl hi hX hn hp m s a hl384 (hv om) ha).mono (zjA ?_ ?_)⟩
  .intro y a1 h;obtain⟨b1,b2,b3,b4⟩:=zjg h ha (hv om);simp only[Rk,zjf,h,Rr.bind_ok]at hR;exact⟨⟨by rw[b2];exact hl384,b1,λe=>om,λe=>om,λ_=>by rw[b4.1];exact hq om,λ_=>zlA b4 (hd om)⟩,hR⟩
  .intro e a1 h;simp only[Rk,zjf,h,Rr.bind_er]at hR;exact⟨a1,hR.symm⟩
 .refine⟨_,rfl,(zs0 H i p n X c hl hi hX hn hp m s a hl384 (hq om) ha).mono (zjA ?_ ?_)⟩
  .intro y a1 h;obtain⟨b1,b2,b3⟩:=zhj h ha;simp only[Rk,h,Rr.bind_ok]at hR;refine⟨⟨by rw[b2];exact hl384,b1,λe=>om,λe=>om,λe=>om,λ_ j=> ?_⟩,hR⟩;have:=hd om j;unfold dcS at this |-;rw[<-b3.1,<-b3.2.1,<-b3.2.2];exact this
  .intro e a1 h;simp only[Rk,h,Rr.bind_er]at hR;exact⟨a1,hR.symm⟩
 .refine⟨_,rfl,(zsZ H i p n X c hl hi hX hn hp m s a hl384 ha).mono (zjA ?_ ?_)⟩
  .intro y a1 h;cases hc:zbz p n hl m a with
   | er e a2=>rw[hc]at h;cases h
   | ok m' a2=>obtain⟨b1,b2,b3⟩:=zji hc ha;rw[hc,Rr.bind_ok]at h;injection h with e1 e2;subst e1 e2;simp only[Rk,hc,Rr.bind_ok]at hR;exact⟨⟨by rw[b2];exact hl384,b1,λe=>om,λe=>om,λe=>om,λ_=>hd om⟩,hR⟩
  .intro e a1 h;cases hc:zbz p n hl m a with
   | ok m' a2=>rw[hc]at h;cases h
   | er e2 a2=>simp_all[Rk,Rr.bind_er]
 .refine⟨_,rfl,(zsT H i p n X c hl hi hX hn hp m s a hl384 (hd om) ha).mono (zjA ?_ ?_)⟩
  .intro y a1 h;obtain⟨b1,b2,b3⟩:=zeH 6 m s a h ha om hl384;simp only[Rk,h,Rr.bind_ok]at hR;exact⟨⟨b2,b1,λe=>om,λe=>om,λe=>om,λe=>om⟩,hR⟩
  .intro e a1 h;simp only[Rk,h,Rr.bind_er]at hR;exact⟨a1,hR.symm⟩
theorem zrd(i:Nat)(p:List UInt8)(n a:Nat)(c:Cx)(s:St)(H:za)(hA:H[i]? =some (rA p n a))(ha:a<=n)(hn:n<=8 * p.length)(hp:p.length<=100000000):
  CallEx qA 81 [.ptr i 0 0,.agg (cxc c),.agg (stc s)] H (zxC H i p n (zdp c s p n a)):=by
 have hi:=(List.getElem?_eq_some_iff.1 hA).1;have hself:=zai hA;have c1:=zd6 c;have c2:=zkJ s;have vo:=λK=>zlR c K;have so:=λK=>zsK s K;have tk1:qG 4 (cxc c)=cxc c:=rfl;have tk2:qG 8 (stc s)=stc s:=rfl;have l1:(cxc c).length=4:=rfl;have l2:(stc s).length=8:=rfl;have hx:=λK=>zay (K:=K) hA;have hzl:=zdb;have hzc:=zeW;have tz:qG 408 zmv=zmv:=qK om;have dz:qI 408 zmv=[]:=qR om;have hrv:rA p n a=rA p n a:=rfl;have rv0:∀ a,(rA p n a).ver=0:=λ_=>rfl;generalize hres:zdp c s p n a=res;refine CallEx.body (F0:=[(0,.ptr i 0 0),(1,.agg (cxc c)),(2,.agg (stc s))]) Tryz.func81 rfl Tryz.ntmps81 Tryz.results81 rfl kr rfl ?_;refine .f (λK k=>by simp(disch:=omega) only[go_sem,c1,c2,↓zi2,qD];exact k) ?_;unfold zdp at hres;suffices hrest:PW qA _ _ [(0,.ptr i 0 0),(4,.ptr H.length 0 0),(5,.ptr (H.length+1) 0 0),(6,.ptr (H.length+2) 0 0),(7,.ptr (H.length+3) 0 0),(25,.bool (!(vcx c&&zfG s)))] (H++[⟨112,0,cxc c⟩,⟨174,0,stc s⟩,⟨109,0,zmv⟩,⟨174,0,stc zSt⟩]) _ by
  cases hv:vcx c with
  | false=>
   rw[hv]at vo hrest;(repeat refine .seq ?_);refine .rg rfl λK hK=> ?_;simp(disch:=omega) only[go_sem,hx,rv0,tk1,l1];refine VCx.call (vo _) rfl ?_;simp(disch:=omega) only[go_sem];refine hK _ _ ?_;clear hK K;exact .at [0,4,5,6,7,25] hrest rfl rfl
  | true=>rw[hv]at vo hrest;(repeat refine .seq ?_);refine .rg rfl λK hK=> ?_;simp(disch:=omega) only[go_sem,hx,rv0,tk1,l1];refine VCx.call (vo _) rfl ?_;simp(disch:=omega) only[go_sem,tk2,l2];refine VCx.call (so _) rfl ?_;simp(disch:=omega) only[go_sem];refine hK _ _ ?_;clear hK K;exact .at [0,4,5,6,7,25] hrest rfl rfl
 cases hval:(vcx c&&zfG s)with
 | false=>
  rw[hval,if_neg (by decide)]at hres;refine .t ?_;refine .f (λK k=>by simp(disch:=omega) only[go_sem,↓zi2,hzl,hzc,tz,dz,stc];exact k) ?_;refine .ret ⟨.tup [.agg zmv,.agg (stc zSt),.int .i64 1],by simp(disch:=omega) only[go_sem,zk,zo,List.mapM_cons,List.mapM_nil,Option.pure_def,qS,Option.bind_some,Array.toList,hzl,tz,stc,zSt],?_⟩;rw[<-hres];have:=zlV H i p n a [⟨112,0,cxc c⟩,⟨174,0,stc s⟩,⟨109,0,zmv⟩,⟨174,0,stc zSt⟩] (.er 0 a) ha;rw[hself]at this;exact this
 | true=>
  rw[hval,if_pos rfl]at hres;rw[qP]at hval;obtain⟨hq,hv,hd⟩:=zkr hval.2;refine .us ?_;refine .f (λK k=>by simp(disch:=omega) only[go_sem,↓zi2];exact k) ?_;refine .f (λK k=>by simp(disch:=omega) only[go_sem,tk1,tk2,l1,l2,cxc,stc];exact k) ?_;obtain⟨X,hXe⟩:∃ X:za,X=[⟨112,0,cxc c⟩,⟨174,0,stc s⟩,⟨109,0,zmv⟩,⟨174,0,stc zSt⟩]:=⟨_,rfl⟩;have hX:X.length=4:=by rw[hXe];rfl
  refine .at [0,4,5,6,7,9,10] (F1:=[(0,.ptr i 0 0),(4,.ptr H.length 0 0),(5,.ptr (H.length+1) 0 0),(6,.ptr (H.length+2) 0 0),(7,.ptr (H.length+3) 0 0),(9,.ptr (H.length+4) 0 0),(10,.ptr (H.length+5) 0 0)]) (H1:=tG H i p n a X (mB zMb) (tB s i c (H.length+4) false)) ?_ rfl (by unfold tG;rw[hself,hXe];rfl);have nf:(pvc Value.nilFunc).cells=[.nl 0]:=rfl;have hS:Sd n 0 zMb s false a:=⟨zV,ha,λ_=>⟨rfl,rfl⟩,λ_=>hv,λ_=>hq,λ_=>hd⟩;refine .g nf ?_;refine .l ?_;suffices hl1:∀(k:Nat) (m:Mb) (s:St) (hl:Bool) (a:Nat),k<=5->Sd n k m s hl a->Rk c p n k m s hl a=res->PL qA _ _ [(6,.ptr (H.length+2) 0 0),(7,.ptr (H.length+3) 0 0),(9,.ptr (H.length+4) 0 0),(10,.ptr (H.length+5) 0 0),(32,.slice prts 5 true),(33,.int .i64 5),(34,.int .i64 (k:Int))] (tG H i p n a X (mB m) (tB s i c (H.length+4) hl)) _ by exact .at [6,7,9,10,32,33,34] (hl1 0 zMb s false a om hS hres) rfl rfl
  clear hres hS hv hq hd;have hpl:prts.length=5:=rfl;have gE:∀ m s hl a,(tG H i p n a X (mB m) (tB s i c (H.length+4) hl))[H.length+2]? =some ⟨109,0,zmv⟩/\(tG H i p n a X (mB m) (tB s i c (H.length+4) hl))[H.length+3]? =some ⟨174,0,stc zSt⟩:=λm s hl a=>by simp_all[tG,qE,qB]
  have ao:=λs k K=>zwK s k K;intro k m s hl a hk hS hR;induction hd:5 - k using qJ generalizing k m s hl a with
  | _ d ih=>
   refine .round ?_;refine .e ?_;refine .c (λh=> ?_) (λh=> ?_)
   .have h5:k<5:=by grind
    obtain⟨f,hf,hc⟩:=disp H i p n X c hi hX hn hp k h5 m s hl a res hS hR;refine .skip ?_;refine .b ?_;refine .g (nq2 hf hpl) ?_;(repeat refine .seq ?_);refine .rg rfl λK hK=> ?_;simp(disch:=omega) only[go_sem];refine VCx.callR hc rfl λv H' hQ=> ?_;rcases hQ with⟨m',s',hl',a',rfl,hS',hR',rfl⟩|⟨e,a0,hre,rfl,a',m',s',hl',ha',hml',rfl⟩
    .simp(disch:=omega) only[go_sem];refine hK _ _ ?_;clear hK K;refine .e ?_;refine .us ?_;refine .e ?_;exact .at [6,7,9,10,32,33,34] (ih (5 - (k+1)) om (k+1) m' s' hl' a' om hS' hR' rfl) rfl rfl
    .have d0:((e:Int)+1 !=0)=true:=by simp;omega
     obtain⟨ge1,ge2⟩:=gE m' s' hl' a';have se1:=zai ge1;have se2:=zai ge2;have lst:(stc zSt).length=8:=rfl;simp(disch:=omega) only[go_sem,ecd];refine hK _ _ ?_;clear hK K;refine .g d0 ?_;refine .t ?_;refine .f (λK k=>by simp(disch:=omega) only[go_sem,↓zi2,ge1,ge2,hzl,hzc,dz,lst,se1];exact k) ?_;refine .at [6,7,8] (F1:=[(6,.ptr (H.length+2) 0 0),(7,.ptr (H.length+3) 0 0),(8,.int .i64 ((e:Int)+1))]) (H1:=tG H i p n a' X (mB m') (tB s' i c (H.length+4) hl')) ?_ rfl se2;have tst:qG 8 (stc zSt)=stc zSt:=rfl;refine .w (.tup [.agg zmv,.agg (stc zSt),.int .i64 ((e:Int)+1)]) (nq2 ge1 (nq2 ge2 (nq2 hzl (nq2 tz (nq2 lst tst))))) ?_;rw[hre];exact zlV H i p n a' (X++[mB m',tB s' i c (H.length+4) hl']) (.er e a0) ha'
   .have h5:k=5:=by grind
    subst h5;refine .exit ?_;simp only[Rk]at hR;have ml:=hS.l;have hlm:=zu m ml;have htm:qG 408 (mbc m)=mbc m:=qK om;have hcm:=zcu m;have g5:=λB4 B5=>zjj H i p n a X B4 B5 hX;have g4:=λB4 B5=>zkF H i p n a X B4 B5 hX;obtain⟨ge1,ge2⟩:=gE m s hl a;have gX2:=λY B4 B5 B hY=>zuw H i p n a Y B4 B5 B 2 hY om;have gX3:=λY B4 B5 B hY=>zuw H i p n a Y B4 B5 B 3 hY om;have tcs:qG 8 (tC s i c (H.length+4) hl)=stc s:=rfl;have lst:∀ t,(stc t).length=8:=λ_=>rfl;have cst:∀ t,(stc t).all PV.cell=true:=λ_=>rfl;have ao1:=λK=>ao s m.k K;have e3:(tG H i p n a (X.set 2 (mB m)) (mB m) (tB s i c (H.length+4) hl))[H.length+3]? =some ⟨174,0,stc zSt⟩:=by grind
    have hw2:=gX2 X (mB m) (tB s i c (H.length+4) hl) (mB m) hX;have hw3:=gX3 (X.set 2 (mB m)) (mB m) (tB s i c (H.length+4) hl) ⟨174,0,stc (aft s m.k)⟩ (by rw[qB];exact hX);have dst:qI 8 (stc zSt)=[]:=rfl;(repeat refine .seq ?_);refine .draw mix kr λK hK=> ?_;simp(disch:=omega) only[go_sem,g5,g4,zG,zH,zaI,zaM,zdH,hlm,htm,tcs,zan];refine VCy.call (ao1 _) rfl ?_;simp(disch:=omega) only[go_sem,ge1,ge2,hzl,dz,hlm,hcm,zbh,hw2,e3,lst,cst,dst,hw3];refine hK _ _ ?_;clear hK K;have hX2:((X.set 2 (mB m)).set 3 ⟨174,0,stc (aft s m.k)⟩).length=4:=by rw[qB,qB];exact hX
    have f2:(tG H i p n a ((X.set 2 (mB m)).set 3 ⟨174,0,stc (aft s m.k)⟩) (mB m) (tB s i c (H.length+4) hl))[H.length+2]? =some (mB m):=by rw[zux _ _ _ _ _ _ _ _ _ hX2 om,hXe];rfl
    have f3:(tG H i p n a ((X.set 2 (mB m)).set 3 ⟨174,0,stc (aft s m.k)⟩) (mB m) (tB s i c (H.length+4) hl))[H.length+3]? =some ⟨174,0,stc (aft s m.k)⟩:=by rw[zux _ _ _ _ _ _ _ _ _ hX2 om,hXe];rfl
    have tst:∀ t,qG 8 (stc t)=stc t:=λ_=>rfl;refine .ret ⟨.tup [.agg (mbc m),.agg (stc (aft s m.k)),.int .i64 0],by simp(disch:=omega) only[go_sem,zk,zo,List.mapM_cons,List.mapM_nil,Option.pure_def,qS,Option.bind_some,Array.toList,f2,f3,zaI,zaM,hlm,htm,lst,tst],?_⟩;rw[<-hR];exact zlV H i p n a (((X.set 2 (mB m)).set 3 ⟨174,0,stc (aft s m.k)⟩)++[mB m,tB s i c (H.length+4) hl]) (.ok (m,aft s m.k) a) rfl
theorem zeN(l:List Mb)(n:Nat):∀ x∈l.flatMap mbc,Scoped n x:=λx hx=>by obtain⟨m,_,hx⟩:=List.mem_flatMap.1 hx;simp only[mbc,qN]at hx;rcases hx with rfl|rfl|rfl|rfl|rfl|rfl|rfl|rfl|rfl|rfl|rfl|rfl|rfl|rfl|rfl|rfl|rfl|rfl|rfl|rfl|rfl|rfl|rfl|rfl|hx;all_goals first|exact .int _ _|exact .bool _|exact zZ _ _ _ hx
end Sc
end Go.Proofs.YtdajpjenhcobkaaGreatDoor
