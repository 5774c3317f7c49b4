/-
  Parts of the proof. No condition.
-/
import Derived.Test.YtleejngibkbjnaaGreatDoorW41
import Derived.Test.YtleejngibkbjnaaGreatDoorW42
open Go.Proofs.YtleejngibkbjnaaGreatDoor.Pm.PV renaming int → O
open Go.IntKind renaming i64 → J
open List renaming take → qA, drop → qB, replicate → qD
open Go.Proofs.Tryz
set_option linter.all false
set_option maxRecDepth 100000
set_option maxHeartbeats 32000000
namespace Go.Proofs.YtleejngibkbjnaaGreatDoor.Sc
open Pm Ty Go.RowKit
theorem znX(L:List It)(hL:∀ x∈L,SqOk x.s)(n:Nat)(hn:n<L.length):qA 8 (qB (n * 148+139) (itL L))=cdE (zcI L[n]):=by have h1:=znY L hL n hn;have h2:=zto L[n] (hL _ (uY hn));rw[<-h1,List.drop_take,mI,dL]at h2;exact h2
theorem zsF(L:List It)(fl:Bool)(hL:∀ x∈L,SqOk x.s)(n:Nat)(hn:n<L.length)(hh:L.length<=800000)(H:za):CallOk prog 28 [.slice (itL L) L.length fl,O J (n:Int),O J (n:Int)] H (.slice (cdL [zcI L[n]]) 1 false) H:=by
 have ln:=zbg L hL;have ia:=znX L hL n hn;generalize zcI L[n]=c at *;have e8:(cdE c).length=8:=rfl;have a8:(cdE c).all PV.cell=true:=rfl;have d8:qB 8 (cdE c)=[]:=rfl;refine .go func28 ntmps28 results28 ?_;refine .e (.g (nq2 ln (nq2 ia (nq2 e8 a8))) ?_);refine .e ?_;refine .c (λh=> ?_) (λh=> ?_)
 .simp at h
 refine .skip (.e ?_);refine .v (.slice (cdE c) 1 true) ?_;rw[show cdL [c]=cdE c from gQ _];have:=Fin.base (H:=H) (K:=[]) (v:=.slice (cdE c) 1 false) (v':=.slice (cdE c) 1 true) (Fz.sliceC (FzC.refl (zgN _ _ _ _)) (λe=>by cases e));rw[gQ]at this;exact this
theorem zsE(L:List It)(fl:Bool)(hL:∀ x∈L,SqOk x.s)(n:Nat)(hn:n+1<L.length)(hh:L.length<=800000)(H:za):CallOk prog 28 [.slice (itL L) L.length fl,O J (n:Int),O J ((n+1:Nat):Int)] H (.slice (cdL [zcI L[n],zcI L[n+1]]) 2 false) H:=by
 have ln:=zbg L hL;have ia:=znX L hL n om;have ib:=znX L hL (n+1) hn;generalize zcI L[n]=c at *;generalize zcI L[n+1]=d at *;have e8:∀ c:Cdd,(cdE c).length=8:=λ_=>rfl;have a8:∀ c:Cdd,(cdE c).all PV.cell=true:=λ_=>rfl;have ct:decide (((n+1:Nat):Int)>(n:Int))=true:=by simp;omega
 refine .go func28 ntmps28 results28 ?_;refine .e (.g (nq2 ln (nq2 ia (nq2 e8 a8))) ?_);refine .e ?_;refine .c (λh=> ?_) (λh=> ?_);rotate_left
 .simp at h
 refine .g (nq2 ln (nq2 ib (nq2 e8 a8))) ?_;refine .e (.v (.msl H.length (cdE c++cdE d).length 0 2 8 true) ?_);exact .base (Fz.mslC (e:=45) (xs:=cdL [c,d]) om (apn _ _ 0) (by simp[cdL,e8]) (FzC.refl (λx hx=>ziY _ _ x hx)))
theorem zvv{L:List It}{j:Nat}{e:Ent}(h:EOk L j e)(fl:Bool)(hL:∀ x∈L,SqOk x.s)(hh:L.length<=800000)(H:za):CallOk prog 28 [.slice (itL L) L.length fl,O J e.1.f,O J e.1.l] H (.slice (cdL (zbm L e)) (zbm L e).length false) H:=by
 obtain⟨n,m,e1,e2,h1,h2,h3,h4,h5⟩:=zeM h;rw[e1,e2];rcases dN n m with hm|hm
 .obtain rfl:m=n+1:=om;obtain⟨x,x1,x2⟩:=h5 0 om;obtain⟨y,y1,y2⟩:=h5 1 om;have hp:zbm L e=[zcI L[n],zcI L[n+1]]:=by
   rw[gG om]at x1 y1;injection x1 with x1;injection y1 with y1;subst x1 y1
   match hq:zbm L e with
   | [a,b]=>rw[hq]at x2 y2;simp at x2 y2;simp[x2,y2]
   | []|[_]|_::_::_::_=>rw[hq]at h4;simp at h4;try omega
  rw[hp];exact zsE L fl hL n h3 hh H
 .obtain rfl:m=n:=om;obtain⟨x,x1,x2⟩:=h5 0 om;have hp:zbm L e=[zcI L[m]]:=by
   rw[gG om]at x1;injection x1 with x1;subst x1
   match hq:zbm L e with
   | [a]=>rw[hq]at x2;simp at x2;simp[x2]
   | []|_::_::_=>rw[hq]at h4;simp at h4;try omega
  rw[hp];exact zsF L fl hL m h3 hh H
def dcE(x:Sho):List PV:=fmc x.fr++[.bool x.ok]
def dcF(l:List Sho):List PV:=l.flatMap dcE
theorem zk3(l:List Sho):(dcF l).length=l.length * 6:=zac dcE 6 l λ_ _=>rfl
theorem zk1(n:Nat)(l:List Sho):∀ x∈dcF l,Scoped n x:=λx hx=>by
 obtain⟨u,_,hx⟩:=wM.1 hx;simp only[dcE,uF,uX]at hx;rcases hx with hx|rfl
 .exact zeu _ _ x hx
 .exact .bool _
theorem zt7(l:List Sho)(x:Sho):dcF (l++[x])=dcF l++dcE x:=by simp[dcF]
theorem zk2{l:List Sho}{k:Nat}(hl:l.length=k){n:Int}(h0:0<=n)(h1:n<k):∃ a:Nat,n=(a:Int)/\a<k/\qA 5 (qB (a * 6) (dcF l))=fmc (zbc l n).fr/\(dcF l)[a * 6+5]? =some (.bool (zbc l n).ok):=by
 obtain⟨a,rfl⟩:∃ a:Nat,n=(a:Int):=⟨n.toNat,om⟩;have ha:a<l.length:=om;have e:zbc l (a:Int)=l[a]:=by unfold zbc;rw[gC om,uV,gG ha];rfl
 refine⟨a,rfl,om,?_,?_⟩
 .have h:=zbE dcE 6 l a ha λ_ _=>rfl;have:=congrArg (qA 5) h;rw[mI]at this;rw[e];exact this
 .have h:=zbD dcE 6 l a 5 ha (λ_ _=>rfl) om;rw[e];exact h
theorem zn5(L:List It)(S:List Ent)(fl f2:Bool)(hI:SInv L S)(hL:∀ x∈L,SqOk x.s)(hc:∀ x∈L,CdOk (zcI x))(hsq:∀(j:Nat) (e:Ent),S[j]? =some e->SqOk e.2.1)(hn:L.length<=800000)(hS:S.length<=800000)(H:za):CallOk prog 13 [.slice (itL L) L.length fl,.slice ((S.map (·.1)).flatMap enR) S.length f2] H (.slice (dcF (dvN L S S.length)) S.length false) H:=by
 have lnS:((S.map (·.1)).flatMap enR).length=S.length * 6:=by rw[zdN,dP]
 refine .go func13 ntmps13 results13 ?_;refine .e (.e ?_);refine .view (Vs.ghost 5 67 6 rfl) ?_;refine .e (.l ?_);suffices hl1:∀ k:Nat,k<=S.length->PL prog _ _ [(0,.slice (itL L) L.length fl),(1,.slice ((S.map (·.1)).flatMap enR) S.length f2),(5,.msl H.length (dcF (dvN L S k)).length 0 k 6 true),(6,O J (k:Int))] (H++[⟨67,(dcF (dvN L S k)).length,dcF (dvN L S k)⟩]) _ by exact .a (hl1 0 om)
 refine cnt S.length (λk hk ih=> ?_) ?_;rotate_left
 .refine .round (.f (λK k=>by simp(disch:=omega) only[go_sem,zcP S.length];exact k) ?_);refine .u (.exit ?_);have gl:=zk3 (dvN L S S.length);rw[zbX L S S.length (gV _)]at gl;generalize dvN L S S.length=D at *;refine .e (.v (.msl H.length (dcF D).length 0 S.length 6 true) ?_);exact .base (Fz.mslC (e:=67) (xs:=dcF D) om (apn _ _ 0) om (FzC.refl (zk1 _ _)))
 have ct:=zco hk;have hat:=gG hk;have hE:=hI.e k _ hat;have hsE:=hsq k _ hat;have po:=λK=>zvv hE fl hL hn K;obtain⟨n,m,e1,e2,hnm,hm1,hmL,hPl,hPa⟩:=zeM hE;have ia:qA 6 (qB (k * 6) ((S.map (·.1)).flatMap enR))=enR S[k].1:=by have:=zbE enR 6 (S.map (·.1)) k (by simpa using hk) λ_ _=>rfl;simpa using this
 obtain⟨hcu,hty⟩:S[k].2.1=cur L n/\(1<=S[k].1.ty/\S[k].1.ty<=3):=by obtain⟨⟨n',m',_,_,f1,_,_,_,_,_,h,hv⟩,ht,_⟩:=hE;obtain rfl:n'=n:=om;refine⟨h,?_⟩;unfold zB at hv;simp only[gB]at hv;have:=hv.1.2;unfold zof at this;simp only[gB,gY]at this;rw[ht];omega
 have co:=λK=>zwc L fl hL n om hn K;rw[<-hcu]at co;rw[e1,e2]at po;have hcd:∀ c∈zbm L S[k],CdOk c:=λc hcm=>by obtain⟨i,hi⟩:=sM hcm;obtain⟨x,hx,hx2⟩:=hPa i (by have:=(gA.1 hi).1;omega);rw[hx2]at hi;injection hi with hi;rw[<-hi];exact hc x (uE hx)
 have fo:=λK=>zqF S[k].2.1 (zbm L S[k]) (zbc (dvN L S k) S[k].1.pa).fr (zbc (dvN L S k) S[k].1.fu).fr false hsE hcd om K;have hdl:=zbX L S k om;have rA:=λh0:0<=S[k].1.pa=>zk2 hdl h0 hE.2.2.1.2;have rB:=λh0:0<=S[k].1.fu=>zk2 hdl h0 hE.2.2.2.1.2;obtain⟨_,_,⟨hpa,_⟩,⟨hfu,_⟩,h3,h2,h13⟩:=hE;have gl:=zk3 (dvN L S k);rw[hdl]at gl;rw[dvN,hat]at ih;dsimp only at ih;rw[zt7]at ih;have r0:∀ n:Int,n<0->zbc (dvN L S k) n=zkg:=λn h=>by unfold zbc;rw[gD h]
 have ra0:=r0 S[k].1.pa;have rb0:=r0 S[k].1.fu;have hdE:dcE (shE L S[k] (dvN L S k))=fmc (zfj S[k].2.1 (zbm L S[k]) (zbc (dvN L S k) S[k].1.pa).fr (zbc (dvN L S k) S[k].1.fu).fr).1++[.bool (((zfj S[k].2.1 (zbm L S[k]) (zbc (dvN L S k) S[k].1.pa).fr (zbc (dvN L S k) S[k].1.fu).fr).2.1&&(decide (S[k].1.ty=1)||(zbc (dvN L S k) S[k].1.pa).ok))&&(!decide (S[k].1.ty=3)||(zbc (dvN L S k) S[k].1.fu).ok))]:=rfl;rw[hdE]at ih;clear hdE r0 hcu hcd hPa hPl hat;have hsc:∀ x∈dcF (dvN L S k),Scoped H.length x:=zk1 _ _;generalize zbc (dvN L S k) S[k].1.pa=ra at *;generalize zbc (dvN L S k) S[k].1.fu=rb at *;generalize dcF (dvN L S k)=D at *;have hsl:=zaj S[k].2.1 hsE;have hst:=zbu S[k].2.1 hsE;have hsc2:=zab S[k].2.1;generalize zbm L S[k]=Q at *;generalize S[k]=e at *;have E6:∀ e:En,(enR e).length=6:=λ_=>rfl;have E7:∀ e:En,(enR e).all PV.cell=true:=λ_=>rfl;have T6:∀ e:En,qA 6 (enR e)=enR e:=λ_=>rfl;have x1:(enR e.1)[0]? =some (O J (n:Int)):=by rw[<-e1];rfl
 have x2:(enR e.1)[1]? =some (O J (m:Int)):=by rw[<-e2];rfl
 have x3:(enR e.1)[2]? =some (O J e.1.ty):=rfl;have x4:(enR e.1)[3]? =some (O J e.1.pa):=rfl;have x5:(enR e.1)[4]? =some (O J e.1.fu):=rfl;have F7:∀ g:Fm,(fmc g).length=5:=λ_=>rfl;have F5:∀ g:Fm,(fmc g).all PV.cell=true:=λ_=>rfl;have F8:∀ g:Fm,qA 5 (fmc g)=fmc g:=λ_=>rfl;have Z7:zfr.length=5:=rfl;have F9:∀ g:Fm,qB 5 (fmc g)=[]:=λ_=>rfl;have Z9:qB 5 zfr=[]:=rfl;rw[gl];refine .round (.g ct ?_);refine .t (.skip ?_);refine .b (.g (nq2 lnS (nq2 ia (nq2 E6 (nq2 E7 T6)))) ?_);refine .e ?_;refine .a (?_:PW _ _ _ [(0,.slice (itL L) L.length fl),(1,.slice ((S.map (·.1)).flatMap enR) S.length f2),(5,.msl H.length (k * 6) 0 k 6 true),(6,O J (k:Int)),(7,.ptr (H.length+1) 0 0),(8,.ptr (H.length+2) 0 0),(9,.ptr (H.length+3) 0 0),(10,.bool true)] (H++[⟨67,k * 6,D⟩,⟨65,0,enR e.1⟩,⟨29,0,zfr⟩,⟨29,0,zfr⟩]) _) rfl (by simp[zfr]);suffices hA:∀ A:List PV,A.length=5->A.all PV.cell=true->qA 5 A=A->Wkns A (fmc ra.fr)->(∀ n:Nat,∀ x∈A,Scoped n x)->PW prog _ _ [(0,.slice (itL L) L.length fl),(1,.slice ((S.map (·.1)).flatMap enR) S.length f2),(5,.msl H.length (k * 6) 0 k 6 true),(6,O J (k:Int)),(7,.ptr (H.length+1) 0 0),(8,.ptr (H.length+2) 0 0),(9,.ptr (H.length+3) 0 0),(10,.bool (decide (e.1.ty=1)||ra.ok))] (H++[⟨67,k * 6,D⟩,⟨65,0,enR e.1⟩,⟨29,0,A⟩,⟨29,0,zfr⟩]) _ by
  by_cases hp:0<=e.1.pa
  .have d1:decide (0<=e.1.pa)=true:=gX hp;obtain⟨a,a1,a2,a3,a4⟩:=rA hp;rw[a1]at x4;have hA':=hA (fmc ra.fr) rfl rfl rfl (.refl _) (λn=>zeu _ _);clear hA;refine .f (λK k=>by simp(disch:=omega) only[go_sem,E6,x4,a1▸d1];exact k) ?_;refine .t (.f (λK k=>by simp(disch:=omega) only[go_sem,E6,x4,gl,a3,Z7,F7,Z9,gQ];exact k) ?_);by_cases ht:e.1.ty=1
   .have d2:(e.1.ty==1)=true:=by simp[ht]
    rw[gX ht,dO]at hA';refine .g (nq2 E6 (nq2 x3 d2)) ?_;exact .a hA'
   .have d2:(e.1.ty==1)=false:=by simp[ht]
    rw[gW ht,dR]at hA';refine .g (nq2 E6 (nq2 x3 (nq2 d2 (nq2 x4 (nq2 gl a4))))) ?_;exact .a hA'
  .have d1:decide (0<=e.1.pa)=false:=gW hp;have ht:e.1.ty=1:=by have:¬ e.1.ty=3:=λh=>hp (h3 h).1;have:¬ e.1.ty=2:=λh=>hp (h2 h);omega
   have hA':=hA zfr rfl rfl rfl (by rw[ra0 om];exact zgc) (λn x hx=>by
    simp only[zfr,gM,gL,uA]at hx;rcases hx with rfl|rfl|rfl|rfl|rfl
    .exact .int _ _
    .exact .int _ _
    all_goals exact zk λx hx=>by cases hx)
   rw[gX ht,dO]at hA';refine .g (nq2 E6 (nq2 x4 d1)) ?_;refine .us ?_;exact .a hA'
 intro A A7 A5 A8 Aw Asc;generalize hI1:(decide (e.1.ty=1)||ra.ok)=I1 at ih |-;suffices hB:∀ B:List PV,B.length=5->B.all PV.cell=true->qA 5 B=B->Wkns B (fmc rb.fr)->(∀ n:Nat,∀ x∈B,Scoped n x)->PW prog _ _ [(0,.slice (itL L) L.length fl),(1,.slice ((S.map (·.1)).flatMap enR) S.length f2),(5,.msl H.length (k * 6) 0 k 6 true),(6,O J (k:Int)),(7,.ptr (H.length+1) 0 0),(8,.ptr (H.length+2) 0 0),(9,.ptr (H.length+3) 0 0),(10,.bool (I1&&(!decide (e.1.ty=3)||rb.ok)))] (H++[⟨67,k * 6,D⟩,⟨65,0,enR e.1⟩,⟨29,0,A⟩,⟨29,0,B⟩]) _ by
  by_cases ht:e.1.ty=3
  .have hp:=(h3 ht).2;have d1:decide (0<=e.1.fu)=true:=gX hp;obtain⟨a,a1,a2,a3,a4⟩:=rB hp;rw[a1]at x5;have hB':=hB (fmc rb.fr) rfl rfl rfl (.refl _) (λn=>zeu _ _);clear hB;rw[gX ht,Bool.not_true,dR]at hB';refine .f (λK k=>by simp(disch:=omega) only[go_sem,E6,x5,a1▸d1];exact k) ?_;refine .t (.f (λK k=>by simp(disch:=omega) only[go_sem,E6,x5,gl,a3,Z7,F7,Z9,gQ];exact k) ?_);cases I1 with
   | false=>
    rw[vB]at hB';refine .e ?_;exact .a hB'
   | true=>rw[uP]at hB';refine .g (nq2 E6 (nq2 x5 (nq2 gl a4))) ?_;exact .a hB'
  .have hp:=h13 ht;have d1:decide (0<=e.1.fu)=false:=gW om;have hB':=hB zfr rfl rfl rfl (by rw[rb0 om];exact zgc) (λn x hx=>by
    simp only[zfr,gM,gL,uA]at hx;rcases hx with rfl|rfl|rfl|rfl|rfl
    .exact .int _ _
    .exact .int _ _
    all_goals exact zk λx hx=>by cases hx)
   rw[gW ht,mM,dO,rY]at hB';refine .g (nq2 E6 (nq2 x5 d1)) ?_;refine .us ?_;exact .a hB'
 intro B B7 B5 B8 Bw Bsc;have hI2:∀ g:Bool,(g&&I1&&(!decide (e.1.ty=3)||rb.ok))=(g&&(I1&&(!decide (e.1.ty=3)||rb.ok))):=λg=>mO _ _ _;rw[hI2]at ih;clear hI2;generalize (I1&&(!decide (e.1.ty=3)||rb.ok))=I2 at ih |-;have fo':=λK=>(fo K).wk (args:=[.agg (sqc e.2.1),.slice (cdL Q) Q.length false,.agg A,.agg B]) (.cons (.refl _) (.cons (.refl _) (.cons (.agg Aw (F5 _)) (.cons (.agg Bw (F5 _)) .nil))));clear fo;generalize zfj e.2.1 Q ra.fr rb.fr=X at fo' ih;obtain⟨g,okb,er⟩:=X;simp only[zcE]at fo' ih;refine .view (Vs.place 29) ?_;refine .eq rfl (show _=H++[⟨67,k * 6,D⟩,⟨65,0,enR e.1⟩,⟨29,0,A⟩,⟨29,0,B⟩,⟨29,0,[]⟩]from gU _ _ _) ?_;refine .y [H.length+4] [(11,[0])] [(11,0)] [68,74,77] λK hK=> ?_;refine sqx (nq2 E6 (nq2 x1 (nq2 x2 (nq2 A7 (nq2 B7 (nq2 A8 (nq2 B8 (nq2 hsl hst)))))))) ?_;refine VCj.read (λ_ _=>co _) rfl ?_;refine sqx (nq2 E6 (nq2 x1 (nq2 x2 (nq2 A7 (nq2 B7 (nq2 A8 (nq2 B8 (nq2 hsl hst)))))))) ?_;refine VCj.read (λ_ _=>po _) rfl ?_;refine sqx (nq2 E6 (nq2 x1 (nq2 x2 (nq2 A7 (nq2 B7 (nq2 A8 (nq2 B8 (nq2 hsl hst)))))))) ?_;refine VCj.read (λ_ _=>fo' _) rfl ?_;refine sqx (nq2 F5 (nq2 F7 F8)) ?_;refine hK _ _ ?_;clear hK K;suffices hZ:PW prog _ _ [(0,.slice (itL L) L.length fl),(1,.slice ((S.map (·.1)).flatMap enR) S.length f2),(5,.msl H.length (D++(fmc g++[PV.bool (okb&&I2)])).length 0 (k+1) 6 true),(6,O J (k:Int))] (H++[⟨67,(D++(fmc g++[PV.bool (okb&&I2)])).length,D++(fmc g++[PV.bool (okb&&I2)])⟩,⟨65,0,enR e.1⟩,⟨29,0,A⟩,⟨29,0,B⟩,⟨29,1,fmc g⟩]) _ by
  cases okb with
  | false=>
   rw[vB]at hZ;refine .g (nq2 F5 (nq2 F7 (nq2 F8 (nq2 gl @fmc.eq_1)))) ?_;exact .a hZ
  | true=>rw[uP]at hZ;refine .g (nq2 F5 (nq2 F7 (nq2 F8 (nq2 gl @fmc.eq_1)))) ?_;exact .a hZ
 refine .e ?_;generalize hD':D++(fmc g++[PV.bool (okb&&I2)])=D' at *;have hsc':∀ x∈D',Scoped (H.length+1) x:=λx hx=>by
  rw[<-hD']at hx;rcases uF.1 hx with hx|hx
  .exact(hsc x hx).mono om
  .rcases uF.1 hx with hx|hx
   .exact zeu _ _ x hx
   .rw[uX]at hx;rw[hx];exact .bool _
 refine .keep [0,1,5,6] ?_;refine .view (Vs.trim (F1:=[(0,.slice (itL L) L.length fl),(1,.slice ((S.map (·.1)).flatMap enR) S.length f2),(5,.msl H.length D'.length 0 (k+1) 6 true),(6,O J ((k+1:Nat):Int))]) (H1:=H++[⟨67,D'.length,D'⟩]) (K:=[⟨65,0,enR e.1⟩,⟨29,0,A⟩,⟨29,0,B⟩,⟨29,1,fmc g⟩]) (λhh=>zfi (λb hb x hx=> ?_) hh) sp sp ?_) ih
 .rw[uX]at hb;subst hb;exact hsc' x hx
 .rw[show(H++[⟨67,D'.length,D'⟩]:za).length=H.length+1 by simp];exact⟨.id (zk (zdJ _ _)),.id (zk (zgf _ _)),.id (.msl om),.id (.int _ _),trivial⟩
theorem zv8(L:List It)(S:List Ent){k:Nat}(hk:k<S.length):(dvN L S S.length)[k]? =some (shE L S[k] (dvN L S k)):=by rw[ztZ L S S.length hk (gV _),dvN,gG hk,gN (by rw[zbX L S k om];exact gV _),zbX L S k om,vK];rfl
theorem zkZ(L:List It)(fl:Bool)(hL:∀ x∈L,SqOk x.s)(hc:∀ x∈L,CdOk (zcI x))(hn:L.length<=800000)(H:za):CallOk prog 6 [.slice (itL L) L.length fl] H (.slice (shL (zk0 L)) (zk0 L).length false) H:=by
 have so:∀ K,CallOk prog 12 [.slice (itL L) L.length fl] K (.slice (((zd7 L).map (·.1)).flatMap enR) (zd7 L).length false) K:=λK=>by have:=zu5 L fl hL hn K;rw[<-zp1 L,dP]at this;exact this
 have hI:=zh1 L;have hsq:=fun(j:Nat) (e:Ent) (he:(zd7 L)[j]? =some e)=>zoJ hL he;have hlen:=znk hL;have hdl:=ziR L;have hli:=zbg L hL;unfold zk0 at hdl |-;generalize zd7 L=S at *;have fo:=λK=>zn5 L S fl false hI hL hc hsq hn om K;have lnS:((S.map (·.1)).flatMap enR).length=S.length * 6:=by rw[zdN,dP]
 have hD:=zbX L S S.length (gV _);have gl:=zk3 (dvN L S S.length);rw[hD]at gl;have hz:(qD S.length zsh).flatten=(qD S.length zsh).flatten:=rfl;refine .go func6 ntmps6 results6 ?_;refine .e (.k so ?_);refine .k fo ?_;refine .e (.e ?_);refine .a (?_:PW _ _ _ [(0,.slice (itL L) L.length fl),(3,.slice ((S.map (·.1)).flatMap enR) S.length false),(4,.slice (dcF (dvN L S S.length)) S.length false),(5,.msl H.length 0 0 S.length 11 true),(6,O J 0)] (H++[⟨31,0,(qD S.length zsh).flatten⟩]) _);refine .view (Vs.cut (F1:=[(0,.slice (itL L) L.length fl),(3,.slice ((S.map (·.1)).flatMap enR) S.length false),(4,.slice (dcF (dvN L S S.length)) S.length false),(5,.msl H.length 0 0 S.length 11 true),(6,O J 0)]) (H1:=H++[⟨31,0,shL (zcm L S 0)⟩]) sp (λhs=> ?_) ?_) ?_
 .have:=CutH.of (A:=H) (L:=[⟨31,0,(qD S.length zsh).flatten⟩]) (K:=[]) (L1:=[⟨31,0,shL (zcm L S 0)⟩]) hs ⟨rfl,rfl,zjT _ _ _,trivial⟩;rw[gQ]at this;exact this
 .rw[show(H++[⟨31,0,shL (zcm L S 0)⟩]:za).length=H.length+1 by simp];exact⟨.id (zk (zdJ _ _)),.id (zk (zgf _ _)),.id (zk (zk1 _ _)),.id (.msl om),.id (.int _ _),trivial⟩
 refine .l ?_;suffices hl1:∀ k:Nat,k<=S.length->PL prog _ _ [(0,.slice (itL L) L.length fl),(3,.slice ((S.map (·.1)).flatMap enR) S.length false),(4,.slice (dcF (dvN L S S.length)) S.length false),(5,.msl H.length 0 0 S.length 11 true),(6,O J (k:Int))] (H++[⟨31,0,shL (zcm L S k)⟩]) _ by exact .a (hl1 0 om)
 clear so fo;refine cnt S.length (λk hk ih=> ?_) ?_;rotate_left
 .refine .round (.f (λK k=>by simp(disch:=omega) only[go_sem,zcP S.length];exact k) ?_);refine .u (.exit ?_);refine .e (.v (.msl H.length 0 0 S.length 11 true) ?_);have hon:=zb6 L S S.length;rw[hdl];exact .base (Fz.mslC (e:=31) (xs:=shL (zcm L S S.length)) om (apn _ _ 0) (by rw[zeF,hon]) (FzC.refl (zkh _ _)))
 have ct:=zco hk;have hat:=gG hk;have hE:=hI.e k _ hat;have hshE:=hI.s k _ hat;obtain⟨n,m,e1,e2,hnm,hm1,hmL,_,_⟩:=zeM hE;have hnL:n<L.length:=om;obtain⟨hhd,hty⟩:S[k].2.2=L[n].p/\S[k].1.ty=S[k].2.2.ty:=by obtain⟨⟨n',m',_,_,f1,_,_,_,_,h,_⟩,ht,_⟩:=hE;obtain rfl:n'=n:=om;exact⟨h,ht⟩
 have ia:=zbD enR 6 (S.map (·.1)) k 0 (by simpa using hk) (λ_ _=>rfl) om;have ib:=zbD enR 6 (S.map (·.1)) k 1 (by simpa using hk) (λ_ _=>rfl) om;have ic:=zbD enR 6 (S.map (·.1)) k 5 (by simpa using hk) (λ_ _=>rfl) om;rw[List.getElem_map]at ia ib ic;have ia:((S.map (·.1)).flatMap enR)[k * 6]? =some (O J (n:Int)):=by rw[<-e1];exact ia
 have ib:((S.map (·.1)).flatMap enR)[k * 6+1]? =some (O J (m:Int)):=by rw[<-e2];exact ib
 obtain⟨q,hq⟩:∃ q:Nat,S[k].1.sh=(q:Int):=⟨S[k].1.sh.toNat,om⟩;have ic:((S.map (·.1)).flatMap enR)[k * 6+5]? =some (O J (q:Int)):=by rw[<-hq];exact ic
 have ip:qA 6 (qB (n * 148+139) (itL L))=pic L[n].p:=by have h1:=zeP L hL n 139 6 hnL om;rw[zw9 _ (hL _ (uY hnL))]at h1;exact h1
 obtain⟨a,a1,a2,gF,gI⟩:=zk2 hD (n:=(k:Int)) om om;obtain rfl:a=k:=om;have hrA:zbc (dvN L S S.length) (a:Int)=shE L S[a] (dvN L S a):=by unfold zbc;rw[gC om,uV,zv8 L S hk];rfl
 rw[hrA]at gF gI;rw[zcm,hat]at ih;dsimp only at ih;have x1:(shE L S[a] (dvN L S a)).f=(n:Int):=e1;have x2:(shE L S[a] (dvN L S a)).l=(m:Int):=e2;have x3:(shE L S[a] (dvN L S a)).ty=L[n].p.ty:=hty.trans (by rw[hhd]);have x4:(shE L S[a] (dvN L S a)).fi=if L[n].p.rp then 3 else 2:=by rw[<-hhd];rfl
 have x5:(shE L S[a] (dvN L S a)).tf=L[n].p.tf:=by rw[<-hhd];rfl
 have hol:=zb6 L S a;rw[hq,uV]at ih;rw[hq]at hshE;clear hrA hE hhd hty hat e1 e2;generalize shE L S[a] (dvN L S a)=x at *;obtain⟨fr,f,l,ty,ok,fi,tf⟩:=x;dsimp only at x1 x2 x3 x4 x5 gF gI;subst x1 x2 x3 x5;have hDs:∀ n,∀ x∈dcF (dvN L S S.length),Scoped n x:=λn=>zk1 n _;generalize dcF (dvN L S S.length)=D at *;generalize L[n].p=hp at *;generalize zcm L S a=out at *;have lsh:=zeF out;have hql:q<out.length:=om;have F7:∀ g:Fm,(fmc g).length=5:=λ_=>rfl;have F5:∀ g:Fm,(fmc g).all PV.cell=true:=λ_=>rfl;have F8:∀ g:Fm,qA 5 (fmc g)=fmc g:=λ_=>rfl;have p0:(pic hp)[0]? =some (O J hp.ty):=rfl;have p3:(pic hp)[3]? =some (.bool hp.tf):=rfl;have p4:(pic hp)[4]? =some (.bool hp.rp):=rfl;have pl:(pic hp).length=6:=rfl;have pt:qA 6 (pic hp)=pic hp:=rfl;have pa:(pic hp).all PV.cell=true:=rfl;refine .round (.g ct ?_);refine .t (.skip ?_);refine .b (.g (nq2 lnS (nq2 hli (nq2 ia (nq2 ip (nq2 pl (nq2 pt pa)))))) ?_);(repeat refine .seq ?_);refine .view (Vs.place 31) ?_;refine .a (?_:PW _ _ _ [(0,.slice (itL L) L.length fl),(3,.slice ((S.map (·.1)).flatMap enR) S.length false),(4,.slice D S.length false),(5,.msl H.length 0 0 S.length 11 true),(6,O J (a:Int)),(7,.ptr (H.length+1) 0 0)] (H++[⟨31,0,shL out⟩,⟨41,0,pic hp⟩,⟨31,0,[]⟩]) _) rfl sp;refine .y [H.length+2] [(8,[0])] [(8,0)] [] λK hK=> ?_;refine sqx (nq2 lnS (nq2 gl (nq2 ia (nq2 ib (nq2 gF (nq2 gI (nq2 p0 (nq2 p3 (nq2 pl (nq2 F5 (nq2 F7 (nq2 F8 @fmc.eq_1)))))))))))) ?_;refine hK _ _ ?_;clear hK K;suffices hr:PW prog _ _ [(3,.slice ((S.map (·.1)).flatMap enR) S.length false),(0,.slice (itL L) L.length fl),(4,.slice D S.length false),(5,.msl H.length 0 0 S.length 11 true),(6,O J (a:Int)),(8,.ptr (H.length+2) 1 0)] (H++[⟨31,0,shL out⟩,⟨41,0,pic hp⟩,⟨31,1,shc ⟨fr,n,m,hp.ty,ok,fi,hp.tf⟩⟩]) _ by
  refine .g (nq2 pl p4) ?_;cases hrp:hp.rp with
  | false=>
   rw[hrp,gC sp]at x4;subst x4;refine .us ?_;exact .a hr
  | true=>rw[hrp,gD rfl]at x4;subst x4;refine .t (.g @fmc.eq_1 ?_);exact .a hr
 have hpx:=zoO out q ⟨fr,n,m,hp.ty,ok,fi,hp.tf⟩ hql;have hps:zM (shL out) (q * 11) (shc ⟨fr,n,m,hp.ty,ok,fi,hp.tf⟩)=qA (q * 11) (shL out)++(shc ⟨fr,n,m,hp.ty,ok,fi,hp.tf⟩++qB (q * 11+11) (shL out)):=by unfold zM;rw[gU];rfl
 rw[hps]at hpx;have s1:=zhh;have s2:=zh8;have s3:∀ x:Sho,qA 11 (shc x)=shc x:=λ_=>rfl;refine .y [H.length] [(5,[0]),(61,[0]),(68,[0])] [] [] λK hK=> ?_;refine sqx (nq2 lnS (nq2 ic (nq2 s1 (nq2 s2 (nq2 s3 (nq2 lsh hol)))))) ?_;refine hK _ _ ?_;clear hK K;refine .e ?_;refine .a (?_:PL _ _ _ [(0,.slice (itL L) L.length fl),(3,.slice ((S.map (·.1)).flatMap enR) S.length false),(4,.slice D S.length false),(5,.msl H.length 0 0 S.length 11 true),(6,O J ((a+1:Nat):Int))] (H++[⟨31,0,shL (out.set q ⟨fr,n,m,hp.ty,ok,fi,hp.tf⟩)⟩]++[⟨41,0,pic hp⟩,⟨31,1,shc ⟨fr,n,m,hp.ty,ok,fi,hp.tf⟩⟩]) _) rfl (by rw[<-hpx];simp);refine .view (Vs.trim (F1:=[(0,.slice (itL L) L.length fl),(3,.slice ((S.map (·.1)).flatMap enR) S.length false),(4,.slice D S.length false),(5,.msl H.length 0 0 S.length 11 true),(6,O J ((a+1:Nat):Int))]) (H1:=H++[⟨31,0,shL (out.set q ⟨fr,n,m,hp.ty,ok,fi,hp.tf⟩)⟩]) (λhh=>zfi (λb hb y hy=> ?_) hh) sp rfl ?_) ih
 .rw[uX]at hb;subst hb;exact zkh _ _ y hy
 .rw[show(H++[⟨31,0,shL (out.set q ⟨fr,n,m,hp.ty,ok,fi,hp.tf⟩)⟩]:za).length=H.length+1 by simp];exact⟨.id (zk (zdJ _ _)),.id (zk (zgf _ _)),.id (zk (hDs _)),.id (.msl om),.id (.int _ _),trivial⟩
theorem zmA(l:List It)(f:Bool)(H:za)(hok:∀ x∈l,ItOk x):CallOk prog 3 [.slice (itL l) l.length f] H (.bool true) H:=by
 have hs:∀ x∈l,SqOk x.s:=λx hx=>(hok x hx).s;have yes:∀ K:za,Fin H (.bool true) H (.bool true) (H++K):=λK=>Fin.base (.id (.bool _));have lo:=λK=>zvK l f K hs;refine .go func3 ntmps3 results3 ?_;refine .e ?_;cases hlt:ltB l with
 | false=>
  rw[hlt]at lo;refine .k lo ?_;refine .t (.e ?_);(refine .ret ⟨_,rfl,?_⟩;first|refine .inl ⟨?_,rfl⟩|refine .base (.id' ?_ (.bool _))|refine .base (.id' ?_ (.int _ _)));rfl
 | true=>
 rw[hlt]at lo;refine .k lo ?_;refine .us ?_;clear lo;have h60:=lt60 hlt;have hcd:=zuk hok hlt;have f1:=λK=>zmS l f hs hcd om K;have f2:=λK=>zkZ l f hs hcd om K;refine .m2 trivial f1 f2 ?_;have hDn:(zk0 l).length<=60:=by rw[ziR];have:=znk hs;omega
 generalize zk0 l=D at *;have lD:=zeF D;refine .g (@bne_self_eq_false Int _ _) ?_;refine .us (.e ?_);refine .l ?_;suffices hl1:∀ j:Nat,j<=D.length->PL prog _ _ [(3,.slice (shL D) D.length false),(4,.slice (shL D) D.length false),(5,O J (j:Int))] H _ by exact .a (hl1 0 om)
 refine cnt D.length (λj hj ih=> ?_) ?_
 .have ct:=zco hj;have ea:=zrW D j hj;generalize D[j]=x at *;have ss:=λK=>zqb x K;refine .round (.g ct ?_);refine .t (.skip ?_);refine .b (.dg λK hK=> ?_);simp(disch:=omega) only[go_sem,lD,ea];refine VCz.call (λ_=>ss _) rfl ?_;refine sqz ?_;refine hK _ _ ?_;clear hK K;refine .us (.e ?_);exact .a ih
 .refine .round (.f (λK k=>by simp(disch:=omega) only[go_sem,zcP D.length];exact k) ?_);refine .u (.exit ?_);refine .k zAB ?_;(refine .ret ⟨_,rfl,?_⟩;first|refine .inl ⟨?_,rfl⟩|refine .base (.id' ?_ (.bool _))|refine .base (.id' ?_ (.int _ _)));rfl
end Go.Proofs.YtleejngibkbjnaaGreatDoor.Sc
