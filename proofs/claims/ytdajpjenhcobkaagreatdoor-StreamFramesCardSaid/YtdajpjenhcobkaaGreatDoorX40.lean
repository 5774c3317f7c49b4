/-
  Parts of the proof. No condition.
-/
import Derived.Test.YtdajpjenhcobkaaGreatDoorX36
import Derived.Test.YtdajpjenhcobkaaGreatDoorX39
open Array renaming toList → qG
open List renaming mapM_cons → qE, mapM_nil → qF, append_nil → qH, take → qI, drop → qJ
open Option renaming bind_eq_bind → qA, bind_some → qB, pure_def → qD
open Go.Proofs.Tryz renaming prog → qK
set_option linter.all false
set_option maxRecDepth 100000
set_option maxHeartbeats 32000000
namespace Go.Proofs.YtdajpjenhcobkaaGreatDoor.Sc
open Pm Ty Go.RowKit
theorem zkj(l:List Bool)(f:Bool)(hn:l.length<=1000000)(H:za):CallOk qK 20 [.slice (l.map PV.bool) l.length f] H (.bool (l.all id)) H:=by
 have fin:∀(b:Bool),Fin H (.bool b) H (.bool b) H:=λb=>Fin.now;refine .go Tryz.func20 Tryz.ntmps20 Tryz.results20 ?_;refine .e ?_;refine .e ?_;refine .l ?_;suffices hl1:∀ j:Nat,j<=l.length->(l.drop j).all id=l.all id->PL qK _ _ [(0,.slice (l.map PV.bool) l.length f),(3,.int .i64 (j:Int))] H _ by exact .at [0,3] (hl1 0 om rfl) rfl rfl
 refine cnt l.length (λj hj ih hf=> ?_) (λhf=> ?_)
 .have ct:=zc4 hj;have ea:(l.map PV.bool)[j]? =some (.bool l[j]):=by simp_all
  have el:(l.map PV.bool).length=l.length:=List.length_map ..;rw[zcn _ _ _ hj]at hf;generalize l[j]=x at *;refine .round ?_;refine .g ct ?_;refine .t ?_;refine .skip ?_;refine .b ?_;refine .g (nq2 ea el) ?_;cases x with
  | false=>
   rw[show id false=false from rfl,Bool.false_and]at hf;refine .t ?_;refine .e ?_;refine .v (.bool false) ?_;grind
  | true=>rw[show id true=true from rfl,Bool.true_and]at hf;refine .us ?_;refine .e ?_;exact .at [0,3] (ih hf) rfl rfl
 .refine .round ?_;refine .f (λK k=>by simp(disch:=omega) only[go_sem,zdK l.length];exact k) ?_;refine .u ?_;refine .exit ?_;refine .e ?_;refine .v (.bool true) ?_;grind
theorem zo3(s:Sq)(cs:List Cdd)(pa fu:Fm)(fl:Bool)(hs:SqOk s)(hc:∀ c∈cs,CdOk c)(hn:cs.length<=1000000)(H:za):CallOk qK 7 [.agg (sqc s),.slice (cdL cs) cs.length fl,.agg (fmc pa),.agg (fmc fu)] H (zcD (zls s cs pa fu)) H:=by
 have h1:=zah s;have h2:=zax s hs;have h3:=zbD s hs;have F5:∀ g:Fm,(fmc g).all PV.cell=true:=λ_=>rfl;have F7:∀ g:Fm,(fmc g).length=5:=λ_=>rfl;have F8:∀ g:Fm,qI 5 (fmc g)=fmc g:=λ_=>rfl;have F9:∀ g:Fm,qJ 5 (fmc g)=[]:=λ_=>rfl;have Z7:zfr.length=5:=rfl;have e8:∀ c:Cdd,(cdE c).length=8:=λ_=>rfl;have t8:∀ c:Cdd,qI 8 (cdE c)=cdE c:=λ_=>rfl;have badE:zdv s cs=false->zls s cs pa fu=(f0,false,1):=λh=>by unfold zls;rw[h];rfl
 refine .go Tryz.func7 Tryz.ntmps7 Tryz.results7 ?_;refine .g (nq2 h1 F5) ?_;refine .e ?_
 match cs with
 | []=>
  rw[badE rfl];refine .e ?_;refine .t ?_;refine .e ?_;refine .ret ⟨.tup [.agg zfr,.bool false,.int .i64 1],by simp(disch:=omega) only[go_sem,zk,zo,qE,qF,qD,qA,qB,qG,zfr],?_⟩;exact zaN _ _ _
 | c::d::e::r=>
  rw[badE (by simp[zdv])];have d1:(((c::d::e::r).length:Int) !=1)=true:=by simp;omega
  have d2:(((c::d::e::r).length:Int) !=2)=true:=by simp;omega
  generalize c::d::e::r=cs at *;refine .g (nq2 d1 d2) ?_;refine .t ?_;refine .e ?_;refine .ret ⟨.tup [.agg zfr,.bool false,.int .i64 1],by simp(disch:=omega) only[go_sem,zk,zo,qE,qF,qD,qA,qB,qG,zfr],?_⟩;exact zaN _ _ _
 | [c]=>
  have hcc:=hc c sp;have i0:qI 8 (cdL [c])=cdE c:=rfl;have i1:(cdL [c]).length=8:=rfl;have i2:(cdL [c])[1]? =some (.int .i64 c.p.st):=rfl;have i3:qI 6 (cdL [c])=pic c.p:=rfl;have va:=λK=>zbG s c.p K hs;by_cases hst:c.p.st=3;rotate_left
  .have d1:(c.p.st !=3)=true:=by simp_all
   rw[badE (by simp[zdv,hst])];refine .g (nq2 i1 (nq2 i2 d1)) ?_;refine .t ?_;refine .e ?_;refine .ret ⟨.tup [.agg zfr,.bool false,.int .i64 1],by simp(disch:=omega) only[go_sem,zk,zo,qE,qF,qD,qA,qB,qG,zfr],?_⟩;exact zaN _ _ _
  have d1:(c.p.st !=3)=false:=by simp[hst]
  refine .g (nq2 i1 (nq2 i2 d1)) ?_;refine .us ?_;refine .e ?_;refine .l ?_;refine .round ?_;refine .e ?_;refine .t ?_;refine .skip ?_;refine .b ?_;cases hv:zP s c.p with
  | false=>
   rw[hv]at va;rw[badE (by simp[zdv,hv])];(repeat refine .seq ?_);refine .drawg mix kr λK hK=> ?_;simp(disch:=omega) only[go_sem,h2,h3,i1,i3];refine VCz.call (λ_=>va _) rfl ?_;refine sqz ?_;refine hK _ _ ?_;clear hK K;refine .t ?_;refine .e ?_;refine .ret ⟨.tup [.agg zfr,.bool false,.int .i64 1],by simp(disch:=omega) only[go_sem,zk,zo,qE,qF,qD,qA,qB,qG,zfr],?_⟩;exact zaN _ _ _
  | true=>
  rw[hv]at va;(repeat refine .seq ?_);refine .drawg mix kr λK hK=> ?_;simp(disch:=omega) only[go_sem,h2,h3,i1,i3];refine VCz.call (λ_=>va _) rfl ?_;refine sqz ?_;refine hK _ _ ?_;clear hK K;refine .us ?_;refine .e ?_;refine .round ?_;refine .e ?_;refine .u ?_;refine .exit ?_;clear va;have hcm:zdv s [c]=true:=by simp[zdv,hv,hst]
  unfold zls;rw[if_pos hcm];dsimp only;have de:=λK=>(zeT s c.p c.U c.us pa fu f0 false hs hcc.n hcc.u K).wk (args:=[.agg (sqc s),.agg (cdE c),.agg (fmc pa++(fmc fu++zfr)),.bool false]) (.cons (.refl _) (.cons (.refl _) (.cons (.agg ((Wkns.refl _).append ((Wkns.refl _).append zi1)) rfl) (.cons (.refl _) .nil))));have hX:=λh=>zed (s:=s) (p:=c.p) (us:=c.us) (pa:=pa) (fu:=fu) (fi:=f0) (b:=false) h;generalize zbd s c.p c.us pa fu f0 false=X at de hX |-;refine .f (λK k=>by simp(disch:=omega) only[go_sem,fmc];exact k) ?_;refine .view (Vs.place 30) ?_;refine .at [1,4,8,11,13] (?_:PW _ _ _ [(1,.slice (cdL [c]) 1 fl),(4,.ptr H.length 0 0),(8,.ptr (H.length+3) 0 0),(11,.int .i64 1),(13,.ptr (H.length+4) 0 0)] (H++[⟨26,0,sqc s⟩,⟨30,0,fmc pa⟩,⟨30,0,fmc fu⟩,⟨30,0,zfr⟩,⟨58,0,fmc pa++(fmc fu++zfr)⟩,⟨30,0,[]⟩]) _) rfl (by simp[fmc,zfr]);have rl:(fmc pa++(fmc fu++zfr)).length=15:=rfl;have rt:qI 15 (fmc pa++(fmc fu++zfr))=fmc pa++(fmc fu++zfr):=rfl;(repeat refine .seq ?_);refine .drawg mix kr λK hK=> ?_;simp(disch:=omega) only[go_sem];refine hK _ _ ?_;clear hK K;refine .us ?_;(repeat refine .seq ?_);by_cases h0:X.2=0
  .obtain⟨A,B,hd,hg,hr⟩:=hX h0;rw[if_pos h0];unfold zbw at de;rw[if_pos h0]at de;have al:=λK=>zkj X.1.2 false om K;(repeat refine .seq ?_);refine .drawi [H.length+5] [(14,[0])] [(14,0)] [92] mix kr (by simp<;>omega) λK hK=> ?_;refine sqx (nq2 h2 (nq2 h3 (nq2 i0 (nq2 i1 (nq2 rl (nq2 rt (nq2 e8 t8))))))) ?_;refine VCj.read (λ_ _=>de _) rfl ?_;simp(disch:=omega) only[go_sem,F5,F7,F8,zfr];refine hK _ _ ?_;clear hK K;refine .e ?_;refine .us ?_;refine .e ?_;refine .t ?_;(repeat refine .seq ?_);(repeat refine .seq ?_);refine .drawi [H.length+3] [(8,[0])] [] [104] mix kr (by simp<;>omega) λK hK=> ?_;refine sqx (nq2 F5 (nq2 F7 F8)) ?_;refine VCj.read (λ_ _=>al _) rfl ?_;simp(disch:=omega) only[go_sem,F5,F7,F8,zfr];refine hK _ _ ?_;clear hK K;refine .ret ⟨zcD (X.1.1,X.1.2.all id,0),by simp(disch:=omega) only[go_sem,zk,zo,qE,qF,qD,qA,qB,qG,F7,F8,zcD],?_⟩;exact zcL _ _ _
  .rw[if_neg h0];unfold zbw at de;rw[if_neg h0]at de;have d0:(X.2 !=0)=true:=by simpa using h0
   (repeat refine .seq ?_);refine .drawi [H.length+5] [(14,[0])] [(14,0)] [92] mix kr (by simp<;>omega) λK hK=> ?_;refine sqx (nq2 h2 (nq2 h3 (nq2 i0 (nq2 i1 (nq2 rl (nq2 rt (nq2 e8 t8))))))) ?_;refine VCj.read (λ_ _=>de _) rfl ?_;refine sqz ?_;refine hK _ _ ?_;clear hK K;refine .g d0 ?_;refine .t ?_;refine .f (λK k=>by simp(disch:=omega) only[go_sem,zfr];exact k) ?_;refine .ret ⟨.tup [.agg zfr,.bool false,.int .i64 X.2],by simp(disch:=omega) only[go_sem,zk,zo,qE,qF,qD,qA,qB,qG,zfr],?_⟩;exact zaN _ _ _
 | [c,d]=>
  have hcc:=hc c sp;have hcd:=hc d sp;have i0:qI 8 (cdL [c,d])=cdE c:=rfl;have i1:(cdL [c,d]).length=16:=rfl;have i2:qI 8 (qJ 8 (cdL [c,d]))=cdE d:=rfl;have i3:qI 6 (cdL [c,d])=pic c.p:=rfl;have i4:qI 6 (qJ 8 (cdL [c,d]))=pic d.p:=rfl;have i5:(cdL [c,d])[1]? =some (.int .i64 c.p.st):=rfl;have i6:(cdL [c,d])[3]? =some (.bool c.p.tf):=rfl;have va:=λK=>zbG s c.p K hs;have vd:=λK=>zbG s d.p K hs;have po:=λK=>zq0 c.p d.p K;refine .e ?_;refine .us ?_;refine .e ?_;refine .l ?_;refine .round ?_;refine .e ?_;refine .t ?_;refine .skip ?_;refine .b ?_;cases hv:zP s c.p with
  | false=>
   rw[hv]at va;rw[badE (by simp[zdv,hv])];(repeat refine .seq ?_);refine .drawg mix kr λK hK=> ?_;simp(disch:=omega) only[go_sem,h2,h3,i1,i3];refine VCz.call (λ_=>va _) rfl ?_;refine sqz ?_;refine hK _ _ ?_;clear hK K;refine .t ?_;refine .e ?_;refine .ret ⟨.tup [.agg zfr,.bool false,.int .i64 1],by simp(disch:=omega) only[go_sem,zk,zo,qE,qF,qD,qA,qB,qG,zfr],?_⟩;exact zaN _ _ _
  | true=>
  rw[hv]at va;(repeat refine .seq ?_);refine .drawg mix kr λK hK=> ?_;simp(disch:=omega) only[go_sem,h2,h3,i1,i3];refine VCz.call (λ_=>va _) rfl ?_;refine sqz ?_;refine hK _ _ ?_;clear hK K;refine .us ?_;refine .e ?_;clear va;refine .round ?_;refine .e ?_;refine .t ?_;refine .skip ?_;refine .b ?_;cases hv2:zP s d.p with
  | false=>
   rw[hv2]at vd;rw[badE (by simp[zdv,hv2])];(repeat refine .seq ?_);refine .drawg mix kr λK hK=> ?_;simp(disch:=omega) only[go_sem,h2,h3,i1,i4];refine VCz.call (λ_=>vd _) rfl ?_;refine sqz ?_;refine hK _ _ ?_;clear hK K;refine .t ?_;refine .e ?_;refine .ret ⟨.tup [.agg zfr,.bool false,.int .i64 1],by simp(disch:=omega) only[go_sem,zk,zo,qE,qF,qD,qA,qB,qG,zfr],?_⟩;exact zaN _ _ _
  | true=>
  rw[hv2]at vd;(repeat refine .seq ?_);refine .drawg mix kr λK hK=> ?_;simp(disch:=omega) only[go_sem,h2,h3,i1,i4];refine VCz.call (λ_=>vd _) rfl ?_;refine sqz ?_;refine hK _ _ ?_;clear hK K;refine .us ?_;refine .e ?_;clear vd;refine .round ?_;refine .e ?_;refine .u ?_;refine .exit ?_;refine .f (λK k=>by simp(disch:=omega) only[go_sem,fmc];exact k) ?_;refine .view (Vs.place 30) ?_;refine .at [1,4,8,11,13] (?_:PW _ _ _ [(1,.slice (cdL [c,d]) 2 fl),(4,.ptr H.length 0 0),(8,.ptr (H.length+3) 0 0),(11,.int .i64 2),(13,.ptr (H.length+4) 0 0)] (H++[⟨26,0,sqc s⟩,⟨30,0,fmc pa⟩,⟨30,0,fmc fu⟩,⟨30,0,zfr⟩,⟨58,0,fmc pa++(fmc fu++zfr)⟩,⟨30,0,[]⟩]) _) rfl (by simp[fmc,zfr]);have rl:∀ x,(fmc pa++(fmc fu++fmc x)).length=15:=λ_=>rfl;have rt:∀ x,qI 15 (fmc pa++(fmc fu++fmc x))=fmc pa++(fmc fu++fmc x):=λ_=>rfl;have rlz:(fmc pa++(fmc fu++zfr)).length=15:=rfl;have rtz:qI 15 (fmc pa++(fmc fu++zfr))=fmc pa++(fmc fu++zfr):=rfl;cases hp:zc3 c.p d.p with
  | false=>
   rw[hp]at po;rw[badE (by simp[zdv,hp])];(repeat refine .seq ?_);refine .drawg mix kr λK hK=> ?_;simp(disch:=omega) only[go_sem,i1,i3,i4];refine VCz.call (λ_=>po _) rfl ?_;refine sqz ?_;refine hK _ _ ?_;clear hK K;refine .t ?_;refine .e ?_;refine .ret ⟨.tup [.agg zfr,.bool false,.int .i64 1],by simp(disch:=omega) only[go_sem,zk,zo,qE,qF,qD,qA,qB,qG,zfr],?_⟩;exact zaN _ _ _
  | true=>
  rw[hp]at po;have hlb:(c.p.tf==(c.p.st==1))=zd1 c.p:=rfl;cases hl:zd1 c.p with
  | false=>
   rw[hl]at hlb;rw[badE (by simp[zdv,hl])];(repeat refine .seq ?_);refine .drawg mix kr λK hK=> ?_;simp(disch:=omega) only[go_sem,i1,i3,i4];refine VCz.call (λ_=>po _) rfl ?_;refine sqx (nq2 i1 (nq2 i5 (nq2 i6 hlb))) ?_;refine hK _ _ ?_;clear hK K;refine .t ?_;refine .e ?_;refine .ret ⟨.tup [.agg zfr,.bool false,.int .i64 1],by simp(disch:=omega) only[go_sem,zk,zo,qE,qF,qD,qA,qB,qG,zfr],?_⟩;exact zaN _ _ _
  | true=>
  rw[hl]at hlb;(repeat refine .seq ?_);refine .drawg mix kr λK hK=> ?_;simp(disch:=omega) only[go_sem,i1,i3,i4];refine VCz.call (λ_=>po _) rfl ?_;refine sqx (nq2 i1 (nq2 i5 (nq2 i6 hlb))) ?_;refine hK _ _ ?_;clear hK K;refine .us ?_;clear po hlb;have hcm:zdv s [c,d]=true:=by simp[zdv,hv,hv2,hl,hp]
  unfold zls;rw[if_pos hcm];dsimp only;have de:=λK=>(zeT s c.p c.U c.us pa fu f0 false hs hcc.n hcc.u K).wk (args:=[.agg (sqc s),.agg (cdE c),.agg (fmc pa++(fmc fu++zfr)),.bool false]) (.cons (.refl _) (.cons (.refl _) (.cons (.agg ((Wkns.refl _).append ((Wkns.refl _).append zi1)) rfl) (.cons (.refl _) .nil))));have hX:=λh=>zed (s:=s) (p:=c.p) (us:=c.us) (pa:=pa) (fu:=fu) (fi:=f0) (b:=false) h;generalize zbd s c.p c.us pa fu f0 false=X at de hX |-;(repeat refine .seq ?_);by_cases h0:X.2=0;rotate_left
  .rw[if_neg h0];unfold zbw at de;rw[if_neg h0]at de;have d0:(X.2 !=0)=true:=by simpa using h0
   (repeat refine .seq ?_);refine .drawi [H.length+5] [(14,[0])] [(14,0)] [92] mix kr (by simp<;>omega) λK hK=> ?_;refine sqx (nq2 h2 (nq2 h3 (nq2 i0 (nq2 i1 (nq2 rlz (nq2 rtz (nq2 e8 t8))))))) ?_;refine VCj.read (λ_ _=>de _) rfl ?_;refine sqz ?_;refine hK _ _ ?_;clear hK K;refine .g d0 ?_;refine .t ?_;refine .f (λK k=>by simp(disch:=omega) only[go_sem,zfr];exact k) ?_;refine .ret ⟨.tup [.agg zfr,.bool false,.int .i64 X.2],by simp(disch:=omega) only[go_sem,zk,zo,qE,qF,qD,qA,qB,qG,zfr],?_⟩;exact zaN _ _ _
  obtain⟨A,B,hd,hg,hr⟩:=hX h0;rw[if_pos h0];unfold zbw at de;rw[if_pos h0]at de;have al:=λK=>zkj X.1.2 false om K;(repeat refine .seq ?_);refine .drawi [H.length+5] [(14,[0])] [(14,0)] [92] mix kr (by simp<;>omega) λK hK=> ?_;refine sqx (nq2 h2 (nq2 h3 (nq2 i0 (nq2 i1 (nq2 rlz (nq2 rtz (nq2 e8 t8))))))) ?_;refine VCj.read (λ_ _=>de _) rfl ?_;simp(disch:=omega) only[go_sem,F5,F7,F8,zfr];refine hK _ _ ?_;clear hK K;refine .e ?_;refine .us ?_;refine .e ?_;refine .us ?_;clear de hX;have de:=λK=>zeT s d.p d.U d.us pa fu X.1.1 true hs hcd.n hcd.u K;have hY:=λh=>zed (s:=s) (p:=d.p) (us:=d.us) (pa:=pa) (fu:=fu) (fi:=X.1.1) (b:=true) h;generalize zbd s d.p d.us pa fu X.1.1 true=Y at de hY |-;obtain⟨⟨g,rows⟩,e⟩:=X;simp only at h0 hg hr al de |-;subst h0;refine .f (λK k=>by simp(disch:=omega) only[go_sem,fmc,zfr];exact k) ?_;refine .view (Vs.place 30) ?_;refine .at [1,4,8,11,13,14,15] (?_:PW _ _ _ [(1,.slice (cdL [c,d]) 2 fl),(4,.ptr H.length 0 0),(8,.ptr (H.length+3) 0 0),(11,.int .i64 2),(13,.ptr (H.length+4) 0 0),(14,.ptr (H.length+5) 1 0),(15,.slice (rows.map PV.bool) rows.length false)] (H++[⟨26,0,sqc s⟩,⟨30,0,fmc pa⟩,⟨30,0,fmc fu⟩,⟨30,0,zfr⟩,⟨58,0,fmc pa++(fmc fu++fmc g)⟩,⟨30,1,fmc g⟩,⟨30,0,[]⟩]) _) rfl (by simp[fmc,zfr]);by_cases k0:Y.2=0;rotate_left
  .rw[if_neg k0];unfold zbw at de;rw[if_neg k0]at de;have d0:(Y.2 !=0)=true:=by simp_all
   (repeat refine .seq ?_);refine .drawi [H.length+6] [(17,[0])] [(17,0)] [113] mix kr (by simp<;>omega) λK hK=> ?_;refine sqx (nq2 h2 (nq2 h3 (nq2 i1 (nq2 i2 (nq2 rl (nq2 rt (nq2 e8 t8))))))) ?_;refine VCj.read (λ_ _=>de _) rfl ?_;refine sqz ?_;refine hK _ _ ?_;clear hK K;refine .g d0 ?_;refine .t ?_;refine .f (λK k=>by simp(disch:=omega) only[go_sem,zfr];exact k) ?_;refine .ret ⟨.tup [.agg zfr,.bool false,.int .i64 Y.2],by simp(disch:=omega) only[go_sem,zk,zo,qE,qF,qD,qA,qB,qG,zfr],?_⟩;exact zaN _ _ _
  obtain⟨A',B',hd',hg',hr'⟩:=hY k0;rw[if_pos k0];unfold zbw at de;rw[if_pos k0]at de;obtain⟨⟨g2,more⟩,e⟩:=Y;simp only at k0 hg' hr' de |-;subst k0;have al2:=λK=>zkj more false om K;(repeat refine .seq ?_);refine .drawi [H.length+6] [(17,[0])] [(17,0)] [113] mix kr (by simp<;>omega) λK hK=> ?_;refine sqx (nq2 h2 (nq2 h3 (nq2 i1 (nq2 i2 (nq2 rl (nq2 rt (nq2 e8 t8))))))) ?_;refine VCj.read (λ_ _=>de _) rfl ?_;simp(disch:=omega) only[go_sem,F5,F7,F8,zfr];refine hK _ _ ?_;clear hK K;clear de hY;refine .e ?_;refine .us ?_;unfold zc3 at hp;simp only[Bool.and_eq_true,Bool.not_eq_true',beq_eq_false_iff_ne,beq_iff_eq]at hp;have eA:A'=A:=by have:=hd.w;have:=hd'.w;omega
  have e32:=(hd.h4 hp.1).1;have e32':=(hd'.h4 hp.2.1).1;have eB:B'=B:=om;subst eA eB;have h64:=(zaC hv).2.1;have k1:=zjU hg om;have k2:=zjU hg' om;have w0:∀ a b:Fm,Gok A' B' a->zik a b=zi6 (8 * A') (8 * B') a b:=λa b ha=>by unfold zik;rw[show(a.w / 2).toNat=8 * A' by rw[ha.w];omega,show(a.h / 2).toNat=8 * B' by rw[ha.h];omega]
  have we1:=λK=>zfE (8 * A') (8 * B') g g2 k1 k2 K;have we2:=λK=>zfE (8 * A') (8 * B') g2 g k2 k1 K;rw[<-w0 g g2 hg]at we1;rw[<-w0 g2 g hg']at we2;generalize zik g g2=W1 at we1 |-;generalize zik g2 g=W2 at we2 |-;have hst:=hd.st;refine .g (nq2 i1 i6) ?_;unfold zd1 at hl;rw[beq_iff_eq]at hl;suffices hm:∀ W:Fm,(if c.p.st=2 then W2 else W1)=W->PW qK _ _ [(8,.ptr (H.length+3) 0 0),(14,.ptr (H.length+5) 1 0),(15,.slice (rows.map PV.bool) rows.length false),(18,.slice (more.map PV.bool) more.length false)] (H++[⟨26,0,sqc s⟩,⟨30,0,fmc pa⟩,⟨30,0,fmc fu⟩,⟨30,0,zfr⟩,⟨58,0,fmc pa++(fmc fu++fmc g)⟩,⟨30,1,fmc W⟩,⟨30,1,fmc g2⟩]) _ by
   cases htf:c.p.tf with
   | true=>
    rw[htf]at hl;have e1:c.p.st=1:=by simp_all
    refine .t ?_;refine .f (λK k=>by simp(disch:=omega) only[go_sem,F5,F7,F8,F9,qH];refine VCx.call (we1 _) rfl ?_;simp(disch:=omega) only[go_sem,F5,F7,F8,F9,qH];exact k) ?_;exact .at [8,14,15,18] (hm W1 (if_neg om)) rfl rfl
   | false=>
    rw[htf]at hl;have e1:¬ c.p.st=1:=by simp_all
    have hne:=hp.1;refine .u ?_;refine .f (λK k=>by simp(disch:=omega) only[go_sem,F5,F7,F8,F9,qH];refine VCx.call (we2 _) rfl ?_;simp(disch:=omega) only[go_sem,F5,F7,F8,F9,qH];exact k) ?_;exact .at [8,14,15,18] (hm W2 (if_pos om)) rfl rfl
  intro W hW;rw[hW];(repeat refine .seq ?_);cases hall:rows.all id with
  | false=>
   rw[hall]at al;(repeat refine .seq ?_);refine .drawi [H.length+3] [(8,[0])] [] [140,143] mix kr (by simp<;>omega) λK hK=> ?_;simp(disch:=omega) only[go_sem,F5,F7,F8,F9,qH];refine VCj.read (λ_ _=>al _) rfl ?_;simp(disch:=omega) only[go_sem,F5,F7,F8,F9,qH,zfr];refine hK _ _ ?_;clear hK K;refine .ret ⟨zcD (W,false,0),by simp(disch:=omega) only[go_sem,zk,zo,qE,qF,qD,qA,qB,qG,F7,F8,zcD],?_⟩;exact zcL _ _ _
  | true=>rw[hall]at al;(repeat refine .seq ?_);refine .drawi [H.length+3] [(8,[0])] [] [140,143] mix kr (by simp<;>omega) λK hK=> ?_;simp(disch:=omega) only[go_sem,F5,F7,F8,F9,qH];refine VCj.read (λ_ _=>al _) rfl ?_;simp(disch:=omega) only[go_sem,F5,F7,F8,F9,qH];refine VCj.read (λ_ _=>al2 _) rfl ?_;simp(disch:=omega) only[go_sem,F5,F7,F8,F9,qH,zfr];refine hK _ _ ?_;clear hK K;refine .ret ⟨zcD (W,more.all id,0),by simp(disch:=omega) only[go_sem,zk,zo,qE,qF,qD,qA,qB,qG,F7,F8,zcD],?_⟩;exact zcL _ _ _
def itQ(c:Cdd):It:=⟨3,sq0,false,false,0,c.p,c.U,c.us,0⟩
theorem znj:SqOk sq0:=⟨by decide,by decide,by decide,by decide,by decide,by decide,rfl,rfl⟩
theorem zwa{c:Cdd}(hi:∀ u∈c.us,zex u.1)(h:ltB [itQ c]=true):CdOk c:=by unfold ltB at h;simp only[List.all_cons,List.all_nil,Bool.and_true,Bool.and_eq_true,ltI,itQ,decide_eq_true_eq,List.all_eq_true]at h;obtain⟨_,⟨_,_,h1⟩,_,h2⟩:=h;exact⟨om,λu hu=>⟨hi u hu,by have:=h2 u hu;omega⟩⟩
theorem zmF(s:Sq)(cs:List Cdd)(pa fu:Fm)(fl:Bool)(H:za)(hs:SqOk s)(hi:∀ c∈cs,∀ u∈c.us,zex u.1)(hb:pa.u.length<=140737488351232/\pa.v.length<=140737488351232/\fu.u.length<=140737488351232/\fu.v.length<=140737488351232):
  CallOk qK 3 [.agg (sqc s),.slice (cdL cs) cs.length fl,.agg (fmc pa),.agg (fmc fu)] H (.bool true) H:=by
 have h1:=zah s;have h2:=zax s hs;have h3:=zbD s hs;have F5:∀ g:Fm,(fmc g).all PV.cell=true:=λ_=>rfl;have F7:∀ g:Fm,(fmc g).length=5:=λ_=>rfl;have F8:∀ g:Fm,qI 5 (fmc g)=fmc g:=λ_=>rfl;have F9:∀ g:Fm,qJ 5 (fmc g)=[]:=λ_=>rfl;have G2:∀ g:Fm,(fmc g)[2]? =some (.slice (bs g.y) g.y.length false):=λ_=>rfl;have G3:∀ g:Fm,(fmc g)[3]? =some (.slice (bs g.u) g.u.length false):=λ_=>rfl;have G4:∀ g:Fm,(fmc g)[4]? =some (.slice (bs g.v) g.v.length false):=λ_=>rfl;have e8:∀ c:Cdd,(cdE c).length=8:=λ_=>rfl;have t8:∀ c:Cdd,qI 8 (cdE c)=cdE c:=λ_=>rfl;have a8:∀ c:Cdd,(cdE c).all PV.cell=true:=λ_=>rfl;have cl:=zn2 cs;have yes:∀ K:za,Fin H (.bool true) H (.bool true) (H++K):=λK=>Fin.base (.id (.bool _));refine .go Tryz.func3 Tryz.ntmps3 Tryz.results3 ?_;refine .g (nq2 h1 F5) ?_;(repeat refine .seq ?_);obtain⟨B,hB⟩:∃ B,(decide (3<(cs.length:Int))||(decide (5000<(pa.y.length:Int))||(decide (5000<(fu.y.length:Int))||decide (8000<(pa.u.length:Int)+(pa.v.length:Int)+(fu.u.length:Int)+(fu.v.length:Int)))))=B:=⟨_,rfl⟩;refine .rgv (P:=qK) [1,4,6,7] 48 (.bool B) ?_ ?_ ?_
 .rfl
 .simp(disch:=omega) only[go_sem,F7,G2,G3,G4];(repeat'((refine zg ?_ ?_)<;>intro h<;>(try simp only[nqb]at h)<;>simp(disch:=omega) only[go_sem,F7,G2,G3,G4,h]));all_goals(subst hB;clear h1 h2 h3 F5 F7 F8 F9 G2 G3 G4 e8 t8 a8 cl yes hi hs hb;(simp_all[kp,slot,Nat.beq]<;>(rw[Bool.eq_iff_iff];simp;omega)))
 cases B with
 | true=>
  refine .t ?_;refine .e ?_;refine .v (.bool true) ?_;exact yes _
 | false=>
 simp only[Bool.or_eq_false_iff,decide_eq_false_iff_not]at hB;obtain⟨b1,_⟩:=hB;refine .us ?_;refine .e ?_;refine .l ?_;suffices hl1:∀ i:Nat,i<=cs.length->(∀ j (c:Cdd),j<i->cs[j]? =some c->CdOk c)->PL qK _ _ [(1,.slice (cdL cs) cs.length fl),(4,.ptr H.length 0 0),(6,.ptr (H.length+1) 0 0),(7,.ptr (H.length+2) 0 0),(9,.int .i64 (i:Int))] (H++[⟨26,0,sqc s⟩,⟨30,0,fmc pa⟩,⟨30,0,fmc fu⟩]) _ by exact .at [1,4,6,7,9] (hl1 0 om (λj c h _=>absurd h (Nat.not_lt_zero _))) rfl rfl
 refine cnt cs.length (λi hil ih hok=> ?_) (λhok=> ?_)
 .have ct:=zc4 hil;have ea:=zsm cs i hil;have hii:=hi _ (List.getElem_mem hil);have hat:=List.getElem?_eq_getElem hil;generalize cs[i]=c at ea hii hat;have lo:=λK=>ztG [itQ c] true K (λx hx=>by obtain rfl:=List.mem_singleton.1 hx;exact znj);have z8:((0:UInt8).toNat:Int)=0:=rfl;obtain⟨Z0,hZ0⟩:∃ Z:List PV,Z= .int .i64 0::(sqc sq0++[.bool false,.bool false,.int .i64 0,.int .i64 0,.int .i64 0,.int .i64 0,.bool false,.bool false,.bool false,.slice [] 0 true,.slice [] 0 true,.int .i64 0]):=⟨_,rfl⟩;have hl0:Z0.length=148:=by rw[hZ0];rfl
  have y3:(qJ 1 Z0).length=147:=by rw[List.length_drop,hl0]
  have y4:qJ 148 Z0=[]:=List.drop_of_length_le om;obtain⟨ZQ,hZQ⟩:∃ Z:List PV,Z=itc (itQ c):=⟨_,rfl⟩;have y5: .int .i64 3::(qI 138 (qJ 1 Z0)++(cdE c++qJ (139+7) (qJ 1 Z0)))=ZQ:=by rw[hZQ,hZ0];rfl
  have y6:ZQ.length=148:=by rw[hZQ];exact zgU _ znj
  have y7:ZQ.all PV.cell=true:=by rw[hZQ];exact zrA _
  have y8:qI 148 ZQ=ZQ:=List.take_of_length_le om;simp only[sqc,sq0,bs,List.replicate_succ,List.replicate_zero,List.map_cons,List.map_nil,List.cons_append,List.nil_append]at hZ0;simp only[z8]at hZ0;have eQ:itL [itQ c]=ZQ:=by rw[hZQ];simp[itL]
  rw[eQ]at lo;refine .round ?_;refine .g ct ?_;refine .t ?_;refine .skip ?_;refine .b ?_;cases hlt:ltB [itQ c]with
  | false=>
   rw[hlt]at lo;refine .f (λK k=>by simp(disch:=omega) only[go_sem,ea,cl,e8,t8,a8,<-hZ0,hl0,y3,y4,y5,y6,y7,y8,qH];refine VCx.call (lo _) rfl ?_;simp(disch:=omega) only[go_sem];exact k) ?_;refine .t ?_;refine .e ?_;refine .v (.bool true) ?_;exact yes _
  | true=>
   rw[hlt]at lo;refine .f (λK k=>by simp(disch:=omega) only[go_sem,ea,cl,e8,t8,a8,<-hZ0,hl0,y3,y4,y5,y6,y7,y8,qH];refine VCx.call (lo _) rfl ?_;simp(disch:=omega) only[go_sem];exact k) ?_;refine .us ?_;refine .e ?_;have hcd:=zwa hii hlt;refine .at [1,4,6,7,9] (ih (λj c' hj hc'=> ?_)) rfl rfl;rcases Nat.lt_or_ge j i with h'|h'
   .exact hok j c' h' hc'
   .obtain rfl:j=i:=om;rw[hat]at hc';injection hc' with hc';rw[<-hc'];exact hcd
 .refine .round ?_;refine .f (λK k=>by simp(disch:=omega) only[go_sem,zdK cs.length];exact k) ?_;refine .u ?_;refine .exit ?_;have hcd:∀ c∈cs,CdOk c:=λc hc=>by obtain⟨j,hj⟩:=List.getElem?_of_mem hc;exact hok j c (List.getElem?_eq_some_iff.1 hj).1 hj
  have fo:=λK=>zrQ s cs pa fu fl hs hcd om K;have ro:=λK=>zo3 s cs pa fu fl hs hcd om K;generalize zls s cs pa fu=X at fo ro;obtain⟨g,okb,e⟩:=X;simp only[zcD]at fo ro;have eo:=λK=>zo8 g K;have d1:(e==e)=true:=by simp
  have d2:(okb==okb)=true:=by simp
  refine .m (nq2 h2 (nq2 h3 (nq2 F7 (nq2 F8 F5)))) fo ?_;refine .m (nq2 h2 (nq2 h3 (nq2 F7 (nq2 F8 F5)))) ro ?_;refine .m2 (nq2 d1 (nq2 d2 (nq2 F7 F8))) zxX eo ?_;refine .v (.bool true) ?_;exact yes _
end Go.Proofs.YtdajpjenhcobkaaGreatDoor.Sc
