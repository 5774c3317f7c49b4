/-
  Parts of the proof, put together in one text. No condition.
-/
import Derived.Test.YtpjlfoficnpfoaaGreatDoorS09
import Derived.WalkSmall
import Derived.Laws.Build
open Array renaming replicate → qK, toArray_toList → qS
open Bool renaming eq_iff_iff → qB, and_eq_true → qJ
open List renaming length_set → qA, getElem?_eq_some_iff → qC, take_of_length_le → qD, not_mem_nil → qF, mem_cons → qI, replicate → qM, getElem?_append_left → qO, getElem?_eq_getElem → qP, take → qQ, take_append_drop → qR, set_append_left → qT, replicate_succ → qV
open Nat renaming le_of_ble_eq_true → qE, pow_le_pow_right → qG, beq → qH, le_refl → qL, mod_lt → qN, one_mul → qU
namespace Go.Proofs.YtpjlfoficnpfoaaGreatDoor.Sc
set_option linter.all false
open Pm Ty Go.RowKit
theorem opMb(F:Nat→PV)(H:za):pop Tryz.prog (.build 149 #[]) F H=some (.agg zmv,H):=by show(zew Tryz.prog 149 []).map (fun v=>(v,H))=_;rw[zys];rfl
theorem zy8(ds:List (Option Nat))(d:Option Nat)(t:TypeId)(a:Array Edge)(g:Option (Nat×Bool))(p:String)(F:Fr)(H:za):stp Tryz.prog ds { op:=.build 149 #[],dst:=d,type:=t,after:=a,guard:=g,pos:=p } F H=match zah ds F { op:=.build 149 #[],dst:=d,type:=t,after:=a,guard:=g,pos:=p }with
  | none=>none
  | some b=>cond b (some (put F d (.agg zmv),H)) (some (put F d (.tup []),H)):=by
 rw[zqw,opMb];rfl
theorem eqB2(a b:Bool):zdE Tryz.prog .eql 138 (.agg [.bool a,.bool b]) (.agg [.bool false,.bool false])=some (.bool ((a==false)&&((b==false)&&true))):=kr
theorem eqB6(a b c d e f:Bool):zdE Tryz.prog .eql 145 (.agg [.bool a,.bool b,.bool c,.bool d,.bool e,.bool f]) (.agg [.bool true,.bool true,.bool true,.bool true,.bool true,.bool true])=some (.bool ((a==true)&&((b==true)&&((c==true)&&((d==true)&&((e==true)&&((f==true)&&true))))))):=kr
theorem eqV4(a b c d e f g h:Int):zdE Tryz.prog .eql 142 (.agg [.int .i64 a,.int .i64 b,.int .i64 c,.int .i64 d,.int .i64 e,.int .i64 f,.int .i64 g,.int .i64 h]) (.agg [.int .i64 0,.int .i64 0,.int .i64 0,.int .i64 0,.int .i64 0,.int .i64 0,.int .i64 0,.int .i64 0])=some (.bool ((((a==0)&&((b==0)&&true))&&(((c==0)&&((d==0)&&true))&&true))&&((((e==0)&&((f==0)&&true))&&(((g==0)&&((h==0)&&true))&&true))&&true))):=kr
theorem eqI4(a b c d:Int):zdE Tryz.prog .eql 144 (.agg [.int .i64 a,.int .i64 b,.int .i64 c,.int .i64 d]) (.agg [.int .i64 0,.int .i64 0,.int .i64 0,.int .i64 0])=some (.bool (((a==0)&&((b==0)&&true))&&(((c==0)&&((d==0)&&true))&&true))):=kr
theorem zvI(H:za):CallOk Tryz.prog 201 [] H (.agg [.bool true,.bool true,.bool true,.bool true,.bool true,.bool true]) H:=by refine CallOk.go Tryz.func201 Tryz.ntmps201 Tryz.results201 ?_;refine PW.e ?_;refine PW.e ?_;refine PW.v (.agg [.bool true,.bool true,.bool true,.bool true,.bool true,.bool true]) ?_;refine Fin.base (.id (zw fun x hx=> ?_));simp only[qI,qF,or_false,or_self]at hx;subst hx;exact .bool _
def zI(m:Mb):Bool:=(((m.ua==false)&&((m.ub==false)&&true))&&(!m.fp&&(((((m.va==0)&&((m.vb==0)&&true))&&(((m.vc==0)&&((m.vd==0)&&true))&&true))&&((((m.ve==0)&&((m.vf==0)&&true))&&(((m.vg==0)&&((m.vh==0)&&true))&&true))&&true))&&(((m.sa==0)&&((m.sb==0)&&true))&&(((m.sc==0)&&((m.sd==0)&&true))&&true)))))
def aC(m:Mb):Bool:=(m.ca==true)&&((m.cb==true)&&((m.cc==true)&&((m.cd==true)&&((m.ce==true)&&((m.cf==true)&&true)))))
def fmS(c:Cx)(m:Mb):Bool:=vcx c&&(if m.k=0 then !decide (c.t=1)&&zmb m else if m.k=1 then zI m&&(aC m&&(fch c m&&lvr m.lv))else if m.k=2 then zjS c m else false)
theorem zu3(c:Cx)(m:Mb)(hk:m.k=2)(ht:¬c.t=1):zjS c m=(zpF c m&&(fch c m&&(fbl (cdl m) m.lv&&lvr m.lv))):=by unfold zjS zpF fch;generalize zgO c m=u;generalize d0S c m=x;generalize d1S c m=y;generalize lvr m.lv=l;generalize fbl (cdl m) m.lv=f;generalize hlM m=hh;generalize bcx c=b;generalize win m.dl 30=w;generalize m.fd=fd;generalize m.fp=fp;generalize decide (m.dl=0)=dz;rw[decide_eq_false ht];revert u x y l f hh b w fd fp dz;decide
theorem zxT(c:Cx)(m:Mb)(ht:c.t=1):zjS c m=false:=by unfold zjS;rw[decide_eq_true ht];rfl
set_option maxHeartbeats 3200000 in
set_option maxRecDepth 10000 in
theorem zzS(c:Cx)(m:Mb)(H:za)(hl:m.lv.length=384):CallOk Tryz.prog 126 [.agg (cxc c),.agg (mbc m)] H (.bool (fmS c m)) H:=by
 have vo:=fun H=>zl3 c H;have hgt:∀ T,(H++[T,mB m])[H.length+1]? =some (mB m):=fun T=>by simp
 have ho:=fun T=>zya c m (H.length+1) (H++[T,mB m]) (hgt T);have fo:=fun T=>zva c m (H.length+1) (H++[T,mB m]) (hgt T);have bo:=fun T=>zyb m (H.length+1) (H++[T,mB m]) (hgt T) hl;have lo:=fun T=>zxH m (H.length+1) (H++[T,mB m]) (hgt T) hl;have ao:=fun H=>zvI H;have hi:=zu3 c m;have hi1:=zxT c m;have hr:fmS c m=(vcx c&&(if m.k=0 then !decide (c.t=1)&&zmb m else if m.k=1 then zI m&&(aC m&&(fch c m&&lvr m.lv))else if m.k=2 then zjS c m else false)):=rfl;generalize fmS c m=r at hr ⊢;generalize vcx c=vv at vo hr;generalize fch c m=fc at ho hi hr;generalize zpF c m=fr at fo hi;generalize fbl (cdl m) m.lv=fb at bo hi;generalize lvr m.lv=lr at lo hi hr;generalize zjS c m=is0 at hi hi1 hr;have hzm:zmb m=zmb m:=rfl;generalize hzI:zI m=zi at hr;generalize hac:aC m=ac at hr;have hem:=eqMb m hl;generalize zmb m=zm at hem hr;obtain⟨k,ua,ub,fp,fd,va,vb,vc,vd,ve,vf,vg,vh,sa,sb,sc,sd,dl,ca,cb,cc,cd,ce,cf,lv⟩:=m;obtain⟨t,s,ii,n⟩:=c;clear hgt;simp only[mB,mbc]at hr hi hi1 ho fo bo lo hl hem ⊢;have hall:=zX lv;have htk:qQ 384 (is lv)=is lv:=qD (by rw[zr];omega);refine CallOk.body (F0:=[(0,.agg [.int .i64 t,.int .i64 s,.bool ii,.bool n]),(1,.agg (.int .i64 k:: .bool ua:: .bool ub:: .bool fp:: .bool fd:: .int .i64 va:: .int .i64 vb:: .int .i64 vc:: .int .i64 vd:: .int .i64 ve:: .int .i64 vf:: .int .i64 vg:: .int .i64 vh:: .int .i64 sa:: .int .i64 sb:: .int .i64 sc:: .int .i64 sd:: .int .i64 dl:: .bool ca:: .bool cb:: .bool cc:: .bool cd:: .bool ce:: .bool cf::is lv))]) Tryz.func126 rfl Tryz.ntmps126 Tryz.results126 rfl kr rfl ?_;refine PW.g hall ?_;(repeat refine PW.seq ?_);refine PW.rgv (P:=Tryz.prog) [2,3] 18 (.bool (!vv||(!decide (k=1)&&decide (t=1)))) ?_ ?_ ?_
 ·rfl
 ·simp(disch:=omega) only[go_sem,↓reduceIte,reduceCtorEq];(repeat'(first|((first|refine zh ?_ ?_|refine And.intro ?_ ?_)<;>intro h<;>(try simp only[nqb]at h)<;>simp(disch:=omega) only[go_sem,↓reduceIte,reduceCtorEq,h])|((first|refine VCx.call (vo _) rfl ?_);simp(disch:=omega) only[go_sem,↓reduceIte,reduceCtorEq])));all_goals(clear vo ho fo bo lo hi hr hall htk hem;(simp_all[slot,qH]<;>first|rfl|omega|(rw[qB];simp;done)|(rw[qB];simp;omega)))
 refine PW.c (fun h=> ?_) (fun h=> ?_)
 ·refine PW.e ?_;(refine PW.ret ⟨_,rfl,?_⟩;first|refine .inl ⟨?_,rfl⟩|refine Fin.base (.id' ?_ (.bool _))|refine Fin.base (.id' ?_ (.int _ _)));clear vo ho fo bo lo hi hall htk hem;rw[hr];cases vv
  ·rfl
  ·have hk1:¬k=1∧t=1:=by simpa using h
   simp[hk1.1,hk1.2,hi1 hk1.2,slot,qH]
 refine PW.skip ?_;have hvv:vv=true∧(k=1∨¬t=1):=by
  cases vv
  ·cases h
  ·refine⟨rfl,?_⟩;by_cases hk1:k=1
   ·exact .inl hk1
   ·exact .inr (by simpa[hk1]using h)
 rw[hvv.1,Bool.true_and]at hr;clear vo h;refine PW.e ?_;refine PW.b ?_;refine PW.e ?_;refine PW.c (fun h=> ?_) (fun h=> ?_)
 ·have hk0:k=0:=of_decide_eq_true h;subst hk0;have ht:¬t=1:=by rcases hvv.2 with h1|h1;(cases h1);exact h1
  rw[if_pos rfl,decide_eq_false ht]at hr;refine PW.f (fun K k=>by simp(disch:=omega) only[go_sem,↓reduceIte,reduceCtorEq,hall,zr,hl,htk,↓zy8,↓hem];exact k) ?_;(refine PW.ret ⟨_,rfl,?_⟩;first|refine .inl ⟨?_,rfl⟩|refine Fin.base (.id' ?_ (.bool _))|refine Fin.base (.id' ?_ (.int _ _)));rw[hr];rfl
 have hk0:¬k=0:=of_decide_eq_false h;rw[if_neg hk0]at hr;refine PW.e ?_;refine PW.c (fun h=> ?_) (fun h=> ?_)
 ·have hk1:k=1:=of_decide_eq_true h;subst hk1;rw[if_pos rfl]at hr;have q1:=eqB2 ua ub;have q2:=eqV4 va vb vc vd ve vf vg vh;have q3:=eqI4 sa sb sc sd;have q4:=eqB6 ca cb cc cd ce cf;have hz2:zi=(((ua==false)&&((ub==false)&&true))&&(!fp&&(((((va==0)&&((vb==0)&&true))&&(((vc==0)&&((vd==0)&&true))&&true))&&((((ve==0)&&((vf==0)&&true))&&(((vg==0)&&((vh==0)&&true))&&true))&&true))&&(((sa==0)&&((sb==0)&&true))&&(((sc==0)&&((sd==0)&&true))&&true))))):=hzI.symm;have hc2:ac=((ca==true)&&((cb==true)&&((cc==true)&&((cd==true)&&((ce==true)&&((cf==true)&&true)))))):=hac.symm;rw[←hc2]at q4;generalize ((ua==false)&&((ub==false)&&true))=b1 at q1 hz2;generalize (((((va==0)&&((vb==0)&&true))&&(((vc==0)&&((vd==0)&&true))&&true))&&((((ve==0)&&((vf==0)&&true))&&(((vg==0)&&((vh==0)&&true))&&true))&&true)))=b2 at q2 hz2;generalize (((sa==0)&&((sb==0)&&true))&&(((sc==0)&&((sd==0)&&true))&&true))=b3 at q3 hz2;clear hc2 hzI hac hem hi hi1 hzm fo bo;(repeat refine PW.seq ?_);refine PW.rgv (P:=Tryz.prog) [2,3] 5 (.bool zi) ?_ ?_ ?_
  ·rfl
  ·simp(disch:=omega) only[go_sem,↓reduceIte,reduceCtorEq,↓q1,↓q2,↓q3];(repeat'((first|refine zh ?_ ?_|refine zk ?_ ?_|refine zU ?_ ?_|refine VOh_cond ?_ ?_|refine zT ?_ ?_|refine And.intro ?_ ?_)<;>intro h<;>(try simp only[nqb]at h)<;>simp(disch:=omega) only[go_sem,↓reduceIte,reduceCtorEq,↓q1,↓q2,↓q3,h]));all_goals(clear ho lo hr hall htk q1 q2 q3 q4;subst hz2;(simp_all[slot,qH]<;>first|rfl|omega|(rw[qB];simp;done)|(rw[qB];simp;omega)))
  clear hz2;cases zi
  ·(repeat refine PW.seq ?_);refine PW.draw mix kr fun K hK=> ?_;simp(disch:=omega) only[go_sem,↓reduceIte,reduceCtorEq];refine hK _ _ ?_;(refine PW.ret ⟨_,rfl,?_⟩;first|refine .inl ⟨?_,rfl⟩|refine Fin.base (.id' ?_ (.bool _))|refine Fin.base (.id' ?_ (.int _ _)));rw[hr];rfl
  (repeat refine PW.seq ?_);refine PW.draw mix kr fun K hK=> ?_;simp(disch:=omega) only[go_sem,↓reduceIte,reduceCtorEq,↓q4];refine VCy.callP ao rfl ?_;simp(disch:=omega) only[go_sem,↓reduceIte,reduceCtorEq,↓q4];(repeat'(first|((first|refine zk ?_ ?_|refine And.intro ?_ ?_)<;>intro h<;>(try simp only[nqb]at h)<;>simp(disch:=omega) only[go_sem,↓reduceIte,reduceCtorEq,↓q4,h])|((first|refine VCy.call (ho _) rfl ?_|refine VCy.call (lo _) rfl ?_);simp(disch:=omega) only[go_sem,↓reduceIte,reduceCtorEq,↓q4])));all_goals(refine hK _ _ ?_;(refine PW.ret ⟨_,rfl,?_⟩;first|refine .inl ⟨?_,rfl⟩|refine Fin.base (.id' ?_ (.bool _))|refine Fin.base (.id' ?_ (.int _ _)));clear hK ho lo hall htk q1 q2 q3 q4;subst hr;(simp_all[slot,qH]<;>first|rfl|omega|(rw[qB];simp;done)|(rw[qB];simp;omega)))
 have hk1:¬k=1:=of_decide_eq_false h;rw[if_neg hk1]at hr;refine PW.e ?_;refine PW.c (fun h=> ?_) (fun h=> ?_)
 ·have hk2:k=2:=of_decide_eq_true h;subst hk2;have ht:¬t=1:=by rcases hvv.2 with h1|h1;(cases h1);exact h1
  rw[if_pos rfl,hi rfl ht]at hr;clear hi hi1 hzI hac hem hzm;(repeat refine PW.seq ?_);refine PW.rg rfl fun K hK=> ?_;simp(disch:=omega) only[go_sem,↓reduceIte,reduceCtorEq];(repeat'(first|((first|refine zh ?_ ?_|refine And.intro ?_ ?_)<;>intro h<;>(try simp only[nqb]at h)<;>simp(disch:=omega) only[go_sem,↓reduceIte,reduceCtorEq,h])|((first|refine VCx.call (fo _) rfl ?_|refine VCx.call (ho _) rfl ?_|refine VCx.call (bo _) rfl ?_|refine VCx.call (lo _) rfl ?_);simp(disch:=omega) only[go_sem,↓reduceIte,reduceCtorEq])));all_goals(refine hK _ _ ?_;(refine PW.ret ⟨_,rfl,?_⟩;first|refine .inl ⟨?_,rfl⟩|refine Fin.base (.id' ?_ (.bool _))|refine Fin.base (.id' ?_ (.int _ _)));clear hK fo bo ho lo hall htk;subst hr;(simp_all[slot,qH]<;>first|rfl|omega|(rw[qB];simp;done)|(rw[qB];simp;omega)))
 have hk2:¬k=2:=of_decide_eq_false h;rw[if_neg hk2]at hr;refine PW.skip ?_;refine PW.e ?_;(refine PW.ret ⟨_,rfl,?_⟩;first|refine .inl ⟨?_,rfl⟩|refine Fin.base (.id' ?_ (.bool _))|refine Fin.base (.id' ?_ (.int _ _)));rw[hr];rfl
structure St where
 q:Int
 da:Int
 db:Int
 dc:Int
 va:Int
 vb:Int
 vc:Int
 vd:Int
def stc(s:St):List PV:=[.int .i64 s.q,.int .i64 s.da,.int .i64 s.db,.int .i64 s.dc,.int .i64 s.va,.int .i64 s.vb,.int .i64 s.vc,.int .i64 s.vd]
def st0(q:Int):St:=⟨q,0,0,0,0,0,0,0⟩
theorem zc7(s:St)(n:Nat):Scoped n (.agg (stc s)):=zw fun x hx=>by simp only[stc,qI,qF,or_false]at hx;rcases hx with rfl|rfl|rfl|rfl|rfl|rfl|rfl|rfl<;>exact .int _ _
theorem zqA(q:Int)(H:za):CallOk Tryz.prog 110 [.int .i64 q] H (.agg (stc (st0 q))) H:=by refine CallOk.go Tryz.func110 Tryz.ntmps110 Tryz.results110 ?_;refine PW.e ?_;refine PW.e ?_;refine PW.v (.agg [.int .i64 q,.int .i64 0,.int .i64 0,.int .i64 0,.int .i64 0,.int .i64 0,.int .i64 0,.int .i64 0]) ?_;exact Fin.base (.id (zc7 (st0 q) _))
theorem zbt(s:Sq):(sqc s).all PV.cell=true:=by simp[sqc,bs,PV.cell]
theorem zbK(s:Sq)(hs:SqOk s):(sqc s).length=135:=by obtain⟨_,_,_,_,_,_,h1,h2⟩:=hs;simp[sqc,zd,h1,h2]
theorem zdy(s:Sq)(hs:SqOk s):qQ 135 (sqc s)=sqc s:=qD (by rw[zbK s hs];exact qL _)
theorem zqD(s:Sq):(sqc s)[0]? =some (.int .i64 s.w):=rfl
theorem zze(s:Sq):(sqc s)[4]? =some (.bool s.il):=rfl
def zeA(s:Sq)(p:Pi)(b:Bool):Bool:=zP s p&& !(b&&decide (p.st=3))
def cxP(s:Sq)(p:Pi)(b:Bool):Cx:=⟨p.ty,p.st,s.il,b⟩
theorem zos(s:Sq)(p:Pi)(b:Bool)(H:za)(hs:SqOk s):CallOk Tryz.prog 107 [.agg (sqc s),.agg (pic p),.bool b] H (.bool (zeA s p b)) H:=by
 have pv:=fun K=>zcQ s p K hs;have h1:=zbt s;have h2:=zbK s hs;have h3:=zdy s hs;have hst:(p.st==3)=decide (p.st=3):=rfl;generalize hr:zeA s p b=r;unfold zeA at hr;generalize zP s p=v at *;refine CallOk.go Tryz.func107 Tryz.ntmps107 Tryz.results107 ?_;refine PW.f (fun K k=>by simp(disch:=omega) only[go_sem,↓reduceIte,reduceCtorEq,h1,pic];exact k) ?_;cases v<;>cases b;all_goals
  (repeat refine PW.seq ?_);refine PW.rg rfl fun K hK=> ?_;simp(disch:=omega) only[go_sem,↓reduceIte,reduceCtorEq,h2,h3];refine VCx.call (pv _) rfl ?_;simp(disch:=omega) only[go_sem,↓reduceIte,reduceCtorEq];refine hK _ _ ?_;clear hK K;refine PW.ret ⟨_,rfl,Fin.base (.id' ?_ (.bool _))⟩;subst hr;first|(simp[slot,qH];done)|(simp[slot,qH];rfl)
theorem zs3(s:Sq)(p:Pi)(b:Bool)(H:za)(hs:SqOk s):CallOk Tryz.prog 70 [.agg (sqc s),.agg (pic p),.bool b] H (.agg (cxc (cxP s p b))) H:=by
 have h1:=zbt s;have h2:=zbK s hs;have h4:=zze s;refine CallOk.go Tryz.func70 Tryz.ntmps70 Tryz.results70 ?_;refine PW.f (fun K k=>by simp(disch:=omega) only[go_sem,↓reduceIte,reduceCtorEq,h1,pic];exact k) ?_;refine PW.g (nq2 h2 h4) ?_;refine PW.v (.agg [.int .i64 p.ty,.int .i64 p.st,.bool s.il,.bool b]) ?_;refine Fin.base (.id (zw fun x hx=> ?_));simp only[qI,qF,or_false]at hx;rcases hx with rfl|rfl|rfl|rfl
 ·exact .int _ _
 ·exact .int _ _
 ·exact .bool _
 ·exact .bool _
theorem zzJ(H K:za)(i:Nat)(h:i<H.length):(H++K)[i]? =H[i]? :=qO h
theorem zjI(H:za):CallOk Tryz.prog 152 [] H (.ptr H.length 0 0) (H++[⟨313,0,[.slice [] 0 true,.int .i64 0]⟩]):=by refine CallOk.go Tryz.func152 Tryz.ntmps152 Tryz.results152 ?_;refine PW.e ?_;refine PW.e ?_;exact PW.ret ⟨_,rfl,Fin.now⟩
theorem zw7(r:Nat)(h:r<8):128 / 2^r=1 * 2^(7 - r):=by have:r=0∨r=1∨r=2∨r=3∨r=4∨r=5∨r=6∨r=7:=om;rcases this with rfl|rfl|rfl|rfl|rfl|rfl|rfl|rfl<;>rfl
theorem zuq(k':IntKind)(r:Nat)(h:r<8):zaI .shr .u8 128 k' (r:Int)=some (.int .u8 ((2^(7 - r):Nat):Int)):=by have:=znQ k' 128 r om;rw[zw7 r h,qU]at this;exact this
theorem zuw(V s:Nat)(h:V<256)(hs:s<8)(hz:V%2^(s+1)=0):zaI .or .u8 (V:Int) .u8 ((2^s:Nat):Int)=some (.int .u8 ((V+2^s:Nat):Int)):=by have:=zro V s 1 h hs hz om;rwa[qU]at this
theorem zyj(l:List Bool):zM (zaZ (l.length / 8+1) [.int .u8 0]) 0 ((bs (pk l)).take (min (pk l).length (l.length / 8+1) * 1))=bs (zbF l):=by
 have hp:=zaj l;have hr:zaZ (l.length / 8+1) [PV.int .u8 0]=qM (l.length / 8+1) (.int .u8 0):=by
  generalize l.length / 8+1=n;induction n with
  | zero=>rfl
  | succ n ih=>rw[qV,←ih];simp[zaZ,qV]
 rw[hr,Nat.min_eq_left om,Nat.mul_one,qD (by rw[zd];exact qL _)];unfold zM zbF;rw[List.take_zero,List.nil_append,Nat.zero_add,zd,List.drop_replicate];split
 ·rw[zF,show l.length / 8+1 - (pk l).length=1 from om];rfl
 ·rw[show l.length / 8+1 - (pk l).length=0 from om];simp
theorem zex(i j:Nat)(l:List Bool)(H:za)(hA:H[i]? =some (wA j l))(hB:H[j]? =some (wB l))(hl:l.length≤1000000000):
  CallOk Tryz.prog 158 [.ptr i 0 0] H (.slice (bs (pk (l++[true]))) (pk (l++[true])).length false) H:=by
 have hi:=(qC.1 hA).1;have hj:=(qC.1 hB).1;have hpl:=zaj l;have hrl:=ziA l;have hrb:=ziB l;have hrs:=ziz l true;have hpk:=zmE l (l.length / 8);have hz:=zlc l (l.length / 8) (l.length%8) om (qN _ om);rw[show 8 - l.length%8=7 - l.length%8+1 from om]at hz;have hr8:l.length%8<8:=qN _ om;have hcp:=zyj l;have hpl1:(pk (l++[true])).length=l.length / 8+1:=by rw[zaj];simp;omega
 refine CallOk.go Tryz.func158 Tryz.ntmps158 Tryz.results158 ?_;refine PW.e ?_;refine PW.g hA ?_;refine PW.us ?_;obtain⟨N,hN⟩:∃ N,N=l.length / 8+1:=⟨_,rfl⟩;rw[←hN]at hcp hrl hpl1;have e5:((l.length / 8:Nat):Int)+1=(N:Int):=om;refine PW.f (fun K k=>by simp(disch:=omega) only[go_sem,↓reduceIte,reduceCtorEq,hA,wA,znz,e5];exact k) ?_;have hcl:(qM N [PV.int .u8 0]).flatten.length=N:=by simp
 refine PW.to [0,3] [(0,.ptr i 0 0),(3,.msl H.length 0 0 N 1 true)] (H++[⟨5,0,bs (zbF l)⟩]) ?_ ?_
 ·refine PW.f (fun K k=>by simp(disch:=omega) only[go_sem,↓reduceIte,reduceCtorEq,zzJ,hA,hB,wA,wB,zd,hcl];exact k) ?_;refine⟨rfl,?_⟩;rw[←hcp];have htk:qQ (pk l).length (bs (pk l))=bs (pk l):=qD (by rw[zd];exact qL _);simp[zM,zaZ,zd,htk]
 generalize hq:l.length / 8=q at *;generalize hp:pkN l q=v at *;generalize hs:7 - l.length%8=s at *;have hsum:v+2^s<256:=by have h3:s=0∨s=1∨s=2∨s=3∨s=4∨s=5∨s=6∨s=7:=om;rcases h3 with h3|h3|h3|h3|h3|h3|h3|h3;all_goals(rw[h3]at hz ⊢;simp at hz ⊢;omega)
 (repeat refine PW.seq ?_);refine PW.draw mix kr fun K hK=> ?_;simp(disch:=omega) only[go_sem,↓reduceIte,reduceCtorEq,zzJ,hA,wA,znz,zns,zd,zaX,hq,hs,hrb,zuq,zuw,zoJ];refine hK _ _ ?_;clear hK K;refine PW.e ?_;refine PW.ret ⟨_,rfl,?_⟩;simp only[slot,qH];rw[hpl1];have hrs':(zbF l).set q (UInt8.ofNat (v+2^s))=pk (l++[true]):=by rw[←hrs,show true.toNat=1 from rfl,qU]
 rw[hrs'];exact Fin.base (Fz.mslC (e:=5) (xs:=bs (pk (l++[true]))) (qL _) sp (by rw[zd,hpl1];omega) (FzC.refl (zn _ _)))
def zb(l:List Bool):List UInt8:=l.map fun b=>if b then 1 else 0
def za5(p:List UInt8)(k:Nat):Nat:=(p.getD (k / 8) 0).toNat / 2^(7 - k%8)%2
theorem zgp(p:List UInt8)(k:Nat):za5 p k<2:=qN _ om
def vl(p:List UInt8)(a:Nat):Nat→Nat
 | 0=>0
 | n+1=>2 * vl p a n+za5 p (a+n)
theorem zkC(p:List UInt8)(a:Nat):∀ n,vl p a n<2^n
 | 0=>by simp[vl]
 | n+1=>by have h1:=zkC p a n;have h2:=zgp p (a+n);rw[vl,Nat.pow_succ];omega
theorem zpf(k':IntKind)(V:Nat)(h:2 * V<4294967296):zaI .shl .u32 (V:Int) k' 1=some (.int .u32 ((2 * V:Nat):Int)):=by simp only[zaI,IntKind.bits];rw[if_neg om,show min (1:Int).toNat 32=1 from rfl,show(V:Int) * (2:Int)^1=((2 * V:Nat):Int)from om,w32 _ om]
theorem zuJ(a b:Nat)(hb:b<2):2 * a|||b=2 * a+b:=by
 have h1:2 * a=a<<<1:=by rw[Nat.shiftLeft_eq];omega
 rw[h1,Nat.shiftLeft_add_eq_or_of_lt (by simpa using hb)]
theorem zuv(a b:Nat)(hb:b<2)(h:2 * a<4294967296):zaI .or .u32 ((2 * a:Nat):Int) .u32 (b:Int)=some (.int .u32 ((2 * a+b:Nat):Int)):=by
 have key0:(BitVec.ofInt 32 ((2 * a:Nat):Int)|||BitVec.ofInt 32 (b:Int)).toNat=2 * a+b:=by rw[BitVec.ofInt_natCast,BitVec.ofInt_natCast,BitVec.toNat_or,BitVec.toNat_ofNat,BitVec.toNat_ofNat,Nat.mod_eq_of_lt om,Nat.mod_eq_of_lt om];exact zuJ a b hb
 have key:(BitVec.ofInt IntKind.u32.bits ((2 * a:Nat):Int)|||BitVec.ofInt IntKind.u32.bits (b:Int)).toNat=2 * a+b:=key0;simp only[zaI,key,if_true];rw[w32 _ om]
def rA(p:List UInt8)(n a:Nat):Blk:=⟨272,0,[.slice (bs p) p.length false,.int .i64 (n:Int),.int .i64 (a:Int)]⟩
theorem zra(i:Nat)(p:List UInt8)(n a:Nat)(H:za)(hA:H[i]? =some (rA p n a))(ha:a≤n)(hn:n≤1000000000):CallOk Tryz.prog 112 [.ptr i 0 0] H (.int .i64 ((n - a:Nat):Int)) H:=by have e:(n:Int) - (a:Int)=((n - a:Nat):Int):=om;refine CallOk.go Tryz.func112 Tryz.ntmps112 Tryz.results112 ?_;(repeat'(first|refine PW.seq ?_|refine PW.skip ?_|refine PW.block ?_|((first|refine PW.rg rfl fun K hK=> ?_|refine PW.draw mix kr fun K hK=> ?_);simp(disch:=omega) only[go_sem,↓reduceIte,reduceCtorEq,hA,rA,e])|((first|refine zh ?_ ?_|refine zk ?_ ?_|refine And.intro ?_ ?_)<;>intro h<;>(try simp only[nqb]at h)<;>simp(disch:=omega) only[go_sem,↓reduceIte,reduceCtorEq,hA,rA,e,h])|(refine hK _ _ ?_;clear hK K)|(refine PW.cond (t:=_) rfl (fun h=> ?_) (fun h=> ?_)<;>(try(cases h;done))<;>(try simp only[nqb]at h))));all_goals exact PW.ret ⟨_,rfl,Fin.now⟩
theorem zbU(i:Nat)(p:List UInt8)(n a m:Nat)(H:za)(hA:H[i]? =some (rA p n a))(ha:a≤n)(hn:n≤1000000000)(hm:m≤32)(hs:n - a<m):
  CallOk Tryz.prog 109 [.ptr i 0 0,.int .i64 (m:Int)] H (.tup [.int .u32 0,.int .i64 4]) H:=by
 refine CallOk.go Tryz.func109 Tryz.ntmps109 Tryz.results109 ?_;(repeat'(first|refine PW.seq ?_|refine PW.skip ?_|refine PW.block ?_|((first|refine PW.rg rfl fun K hK=> ?_|refine PW.draw mix kr fun K hK=> ?_);simp(disch:=omega) only[go_sem,↓reduceIte,reduceCtorEq,hA,rA])|((first|refine zh ?_ ?_|refine zk ?_ ?_|refine And.intro ?_ ?_)<;>intro h<;>(try simp only[nqb]at h)<;>simp(disch:=omega) only[go_sem,↓reduceIte,reduceCtorEq,hA,rA,h])|(refine hK _ _ ?_;clear hK K)|(refine PW.cond (t:=_) rfl (fun h=> ?_) (fun h=> ?_)<;>(try(cases h;done))<;>(try simp only[nqb]at h))));all_goals first|exact PW.ret ⟨_,rfl,Fin.now⟩|omega
theorem zdz(i:Nat)(p:List UInt8)(n a m:Nat)(H:za)(hA:H[i]? =some (rA p n a))(ha:a+m≤n)(hn:n≤8 * p.length)(hp:p.length≤100000000)(hm:m≤32):
  CallOk Tryz.prog 109 [.ptr i 0 0,.int .i64 (m:Int)] H (.tup [.int .u32 (vl p a m:Int),.int .i64 0]) (H.set i (rA p n (a+m))):=by
 have hi:=(qC.1 hA).1;have hself:=zaO hA;refine CallOk.go Tryz.func109 Tryz.ntmps109 Tryz.results109 ?_;refine PW.e ?_;(repeat refine PW.seq ?_);refine PW.rgv [0,1] 17 (.bool false) rfl ?_ ?_
 ·simp(disch:=omega) only[go_sem,↓reduceIte,reduceCtorEq,hA,rA]
 refine PW.us ?_;(repeat refine PW.seq ?_);refine PW.draw mix kr fun K hK=> ?_;simp(disch:=omega) only[go_sem,↓reduceIte,reduceCtorEq,hA,rA];refine hK _ _ ?_;clear hK K;refine PW.us ?_;refine PW.e ?_;refine PW.e ?_;refine PW.l ?_;suffices hloop:∀(k:Nat),k≤m→PL Tryz.prog _ _ [(0,.ptr i 0 0),(6,.int .u32 (vl p a k:Int)),(29,.int .i64 (m:Int)),(30,.int .i64 (k:Int))] (H.set i (rA p n (a+k))) _ by exact PL.at [0,6,29,30] (hloop 0 (Nat.zero_le _)) rfl hself.symm
 intro k hk;induction hmk:m - k using Nat.strongRecOn generalizing k with
 | _ r ih=>
  refine PL.round ?_;refine PW.e ?_;have hat:∀ B:Blk,(H.set i B)[i]? =some B:=fun B=>by simp[hi]
  refine PW.c (fun h=> ?_) (fun h=> ?_)
  ·have h4:k<m:=ot h;have hnext:=ih (m - (k+1)) om (k+1) om rfl;have hr8:(a+k)%8<8:=qN _ om;have hq8:(a+k) / 8<p.length:=om;have hu:za5 p (a+k)=(p.getD ((a+k) / 8) 0).toNat / 2^(7 - (a+k)%8)%2:=rfl;have e3:(7:Int) - (((a+k)%8:Nat):Int)=((7 - (a+k)%8:Nat):Int):=om;have e4:((a+k:Nat):Int)+1=((a+(k+1):Nat):Int):=om;have hul:=zgp p (a+k);have hvl:=zkC p a k;have hvl2:2 * vl p a k<4294967296:=by have:2^k≤2^31:=qG om om;omega
   have hb:byt p ((a+k) / 8)=((p.getD ((a+k) / 8) 0).toNat:Int):=rfl;refine PW.skip ?_;refine PW.b ?_;(repeat refine PW.seq ?_);refine PW.draw mix kr fun K hK=> ?_;simp(disch:=omega) only[go_sem,↓reduceIte,reduceCtorEq,hat,rA,znz,zns,zd,zaX,e3,hb,znQ,zrN,←hu];refine hK _ _ ?_;clear hK K;refine PW.f (fun K k=>by simp(disch:=omega) only[go_sem,↓reduceIte,reduceCtorEq,zpf,zuv];exact k) ?_;refine PW.f (fun K k=>by simp(disch:=omega) only[go_sem,↓reduceIte,reduceCtorEq,hat,rA,e4,List.set_set];exact k) ?_;refine PW.e ?_;exact PL.at [0,6,29,30] hnext rfl rfl
  ·have h4:k=m:=ofF h;subst h4;refine PW.exit ?_;refine PW.e ?_;refine PW.ret ⟨_,rfl,Fin.now⟩
inductive Rr(α:Type) where
 | ok (v:α) (a:Nat)
 | er (e:Nat) (a:Nat)
def Rr.bind{α β:Type}(x:Rr α)(f:α→Nat→Rr β):Rr β:=match x with| .ok v a=>f v a| .er e a=>.er e a
def Rr.at{α:Type}:Rr α→Nat| .ok _ a=>a| .er _ a=>a
theorem Rr.bind_ok{α β:Type}(v:α)(a:Nat)(f:α→Nat→Rr β):(Rr.ok v a).bind f=f v a:=rfl
theorem Rr.bind_er{α β:Type}(e a:Nat)(f:α→Nat→Rr β):(Rr.er e a:Rr α).bind f= .er e a:=rfl
theorem Rr.bind_bind{α β γ:Type}(x:Rr α)(f:α→Nat→Rr β)(g:β→Nat→Rr γ):(x.bind f).bind g=x.bind fun v a=>(f v a).bind g:=by cases x<;>rfl
def zrs(q:List UInt8)(n:Nat):Nat→Nat→Nat
 | 0,_=>0
 | c+1,a=>if a<n∧za5 q a=0 then zrs q n c (a+1)+1 else 0
section
variable {q:List UInt8} {n:Nat}
theorem zpS:∀(c a:Nat),zrs q n c a≤c
 | 0,a=>by simp[zrs]
 | c+1,a=>by have:=zpS c (a+1);simp only[zrs];split<;>omega
theorem zpR{c a:Nat}(h:a<n)(h0:za5 q a=0):zrs q n (c+1) a=zrs q n c (a+1)+1:=by simp only[zrs];rw[if_pos ⟨h,h0⟩]
theorem ztB{c a:Nat}(h:n≤a):zrs q n c a=0:=by
 cases c with
 | zero=>rfl
 | succ c=>simp only[zrs];rw[if_neg om]
theorem ztA{c a:Nat}(h:za5 q a=1):zrs q n c a=0:=by
 cases c with
 | zero=>rfl
 | succ c=>simp only[zrs];rw[if_neg om]
end
def tkU(q:List UInt8)(n a:Nat):Rr Nat:=if zrs q n 16 a=16 then .er 2 a else if n - a<2 * zrs q n 16 a+1 then .er 3 a else .ok (2^zrs q n 16 a+vl q (a+zrs q n 16 a+1) (zrs q n 16 a) - 1) (a+(2 * zrs q n 16 a+1))
def usg(v:Nat):Int:=if v%2=1 then((v+1) / 2:Nat)else -((v / 2:Nat):Int)
def tkS(q:List UInt8)(n a:Nat):Rr Int:=(tkU q n a).bind fun v a=>.ok (usg v) a
theorem zeL{q:List UInt8}{n a v a1:Nat}(h:tkU q n a= .ok v a1)(ha:a≤n):v≤65534∧a<a1∧a1≤n:=by
 unfold tkU at h;split at h
 ·cases h
 ·split at h
  ·cases h
  ·have h1:=zpS (q:=q) (n:=n) 16 a;injection h with h2 h3;have h4:zrs q n 16 a≤15:=om;have h5:=zkC q (a+zrs q n 16 a+1) (zrs q n 16 a);have h6:2^zrs q n 16 a≤2^15:=qG om h4;omega
theorem zkH{q:List UInt8}{n a e a1:Nat}(h:tkU q n a= .er e a1):a1=a∧e≤3:=by
 unfold tkU at h;split at h
 ·injection h with h2 h3;omega
 ·split at h
  ·injection h with h2 h3;omega
  ·cases h
theorem zyQ(v:Nat)(h:v≤65534): -32767≤usg v∧usg v≤32767:=by unfold usg;split<;>omega
theorem zeM{q:List UInt8}{n a a1:Nat}{v:Int}(h:tkS q n a= .ok v a1)(ha:a≤n):(-32767≤v∧v≤32767)∧a<a1∧a1≤n:=by
 unfold tkS at h;cases hu:tkU q n a with
 | er e a2=>rw[hu]at h;cases h
 | ok w a2=>rw[hu]at h;injection h with h2 h3;have:=zeL hu ha;subst h2 h3;exact⟨zyQ w this.1,this.2⟩
theorem znu{q:List UInt8}{n a e a1:Nat}(h:tkS q n a= .er e a1):a1=a∧e≤3:=by
 unfold tkS at h;cases hu:tkU q n a with
 | ok w a2=>rw[hu]at h;cases h
 | er e a2=>rw[hu]at h;injection h with h2 h3;have:=zkH hu;omega
end Go.Proofs.YtpjlfoficnpfoaaGreatDoor.Sc
namespace Go.Proofs.YtpjlfoficnpfoaaGreatDoor.Sc
set_option linter.all false
open Pm Ty Go.RowKit
def eg(v:Nat):List Bool:=zO 0 (Nat.log2 (v+1))++zO (v+1) (Nat.log2 (v+1)+1)
def fldH(v:Int):Nat:=if 0<v then(2 * v - 1).toNat else(-2 * v).toNat
def sg(v:Int):List Bool:=eg (fldH v)
theorem zzn(p:List UInt8)(n a k:Nat):∀ x∈(rA p n a).cells,Scoped k x:=fun x hx=>by
 simp only[rA,qI,qF,or_false]at hx;rcases hx with rfl|rfl|rfl
 ·exact zj (zn _ _)
 ·exact .int _ _
 ·exact .int _ _
theorem zdL(H:za)(i:Nat)(p:List UInt8)(n a:Nat)(h:HSc H):HSc (H.set i (rA p n a)):=HSc.set h (zzn _ _ _ _)
def rvU:Rr Nat→PV
 | .ok v _=>.tup [.int .i64 (v:Int),.int .i64 0]
 | .er e _=>.tup [.int .i64 0,.int .i64 ((e:Int)+1)]
def rvS:Rr Int→PV
 | .ok v _=>.tup [.int .i64 v,.int .i64 0]
 | .er e _=>.tup [.int .i64 0,.int .i64 ((e:Int)+1)]
theorem zgq(k:Nat)(x y:Int):Scoped k (.tup [.int .i64 x,.int .i64 y]):=.tup fun j x hx=>by have:=List.mem_of_getElem? hx;simp only[qI,qF,or_false]at this;rcases this with rfl|rfl<;>exact .int _ _
theorem zri(k':IntKind)(s:Nat)(h:s≤40):zaI .shl .i64 1 k' (s:Int)=some (.int .i64 ((2^s:Nat):Int)):=by have h2:2^s≤2^40:=qG om h;simp only[zaI,IntKind.bits];rw[if_neg om,show min (s:Int).toNat 64=s from om,show(1:Int) * (2:Int)^s=((2^s:Nat):Int) by simp];generalize 2^s=N at *;rw[w64 _ om]
theorem zi7(i:Nat)(p:List UInt8)(n a:Nat)(H:za)(hA:H[i]? =some (rA p n a))(ha:a≤n)(hn:n≤8 * p.length)(hp:p.length≤100000000):
  CallOk Tryz.prog 256 [.ptr i 0 0] H (rvU (tkU p n a)) (H.set i (rA p n (tkU p n a).at)):=by
 have hi:=(qC.1 hA).1;have hself:=zaO hA;have hA':=fun K=>zae (K:=K) hA;refine CallOk.go Tryz.func256 Tryz.ntmps256 Tryz.results256 ?_;refine PW.e ?_;refine PW.g hA ?_;refine PW.us ?_;refine PW.f (fun K k=>by simp(disch:=omega) only[go_sem,↓reduceIte,reduceCtorEq,hA,rA];exact k) ?_;refine PW.e ?_;refine PW.l ?_;suffices hl:∀ j,j≤15→zrs p n 16 a=j+zrs p n (16 - j) (a+j)→a+j≤n→PL Tryz.prog _ _ [(0,.ptr i 0 0),(4,.ptr H.length 0 0),(5,.int .i64 (j:Int))] (H++[rA p n (a+j)]) _ by exact PL.at [0,4,5] (hl 0 om sp om) rfl rfl
 intro j hj hz hjn;induction hd:16 - j using Nat.strongRecOn generalizing j with
 | _ d ih=>
  subst hd;refine PL.round ?_;refine PW.b ?_;by_cases h0:n=a+j
  ·have t:=zbU H.length p n (a+j) 1 (H++[rA p n (a+j)]) (hp0 _ _ _) hjn om om om;have hz0:zrs p n (16 - j) (a+j)=0:=ztB om;have hr:tkU p n a= .er 3 a:=by unfold tkU;rw[if_neg om,if_pos om]
   refine PW.f (fun K k=>by simp(disch:=omega) only[go_sem,↓reduceIte,reduceCtorEq];refine VCx.call (t) rfl ?_;simp(disch:=omega) only[go_sem,↓reduceIte,reduceCtorEq];exact k) ?_;refine PW.e ?_;refine PW.t ?_;refine PW.e ?_;refine PW.v (.tup [.int .i64 0,.int .i64 4]) ?_;rw[hr];exact Fin.cut (show _=H.set i (rA p n a)++[_] by rw[hself]) sp (zdL _ _ _ _ _) (.id (zgq _ _ _))
  have t:=zdz H.length p n (a+j) 1 (H++[rA p n (a+j)]) (hp0 _ _ _) om hn hp om;have hv1:vl p (a+j) 1=za5 p (a+j):=by simp[vl]
  rw[hv1,hs0,show a+j+1=a+(j+1)from om]at t;have hub:=zgp p (a+j);refine PW.f (fun K k=>by simp(disch:=omega) only[go_sem,↓reduceIte,reduceCtorEq];refine VCx.call (t) rfl ?_;simp(disch:=omega) only[go_sem,↓reduceIte,reduceCtorEq];exact k) ?_;refine PW.e ?_;refine PW.us ?_;by_cases h1:za5 p (a+j)=1
  ·have hz1:zrs p n (16 - j) (a+j)=0:=ztA h1;rw[hz1,Nat.add_zero]at hz;rw[h1];refine PW.e ?_;refine PW.t ?_;refine PW.exit ?_;by_cases h2:n - (a+(j+1))<j
   ·have t2:=zbU H.length p n (a+(j+1)) j (H++[rA p n (a+(j+1))]) (hp0 _ _ _) om om om h2;have hr:tkU p n a= .er 3 a:=by unfold tkU;rw[if_neg om,if_pos om]
    refine PW.f (fun K k=>by simp(disch:=omega) only[go_sem,↓reduceIte,reduceCtorEq];refine VCx.call (t2) rfl ?_;simp(disch:=omega) only[go_sem,↓reduceIte,reduceCtorEq];exact k) ?_;refine PW.e ?_;refine PW.t ?_;refine PW.e ?_;refine PW.v (.tup [.int .i64 0,.int .i64 4]) ?_;rw[hr];exact Fin.cut (show _=H.set i (rA p n a)++[_] by rw[hself]) sp (zdL _ _ _ _ _) (.id (zgq _ _ _))
   ·have t2:=zdz H.length p n (a+(j+1)) j (H++[rA p n (a+(j+1))]) (hp0 _ _ _) om hn hp om;rw[hs0]at t2;have hr:tkU p n a= .ok (2^j+vl p (a+(j+1)) j - 1) (a+(2 * j+1)):=by unfold tkU;rw[if_neg om,if_neg om,hz,show a+j+1=a+(j+1)from om]
    have hvl:=zkC p (a+(j+1)) j;have hpw:2^j≤2^15:=qG om hj;have hsum:((2^j:Nat):Int)+(vl p (a+(j+1)) j:Int) - 1=((2^j+vl p (a+(j+1)) j - 1:Nat):Int):=by have:0<2^j:=Nat.pow_pos om;omega
    rw[hr];simp only[Rr.at,rvU];rw[show a+(j+1)+j=a+(2 * j+1)from om]at t2;generalize vl p (a+(j+1)) j=w at *;refine PW.f (fun K k=>by simp(disch:=omega) only[go_sem,↓reduceIte,reduceCtorEq];refine VCx.call (t2) rfl ?_;simp(disch:=omega) only[go_sem,↓reduceIte,reduceCtorEq];exact k) ?_;refine PW.e ?_;refine PW.us ?_;refine PW.f (fun K k=>by simp(disch:=omega) only[go_sem,↓reduceIte,reduceCtorEq,hA',rA];exact k) ?_;have hpw2:2^j=2^j:=rfl;have hsh:=fun k'=>zri k' j om;generalize 2^j=m at *;refine PW.g (nq2 hsh hsum) ?_;refine PW.v (.tup [.int .i64 ((m+w - 1:Nat):Int),.int .i64 0]) ?_;refine Fin.cut (K:=[rA p n (a+(2 * j+1))]) ?_ sp (zdL _ _ _ _ _) (.id (zgq _ _ _));rw[qT _ _ hi];rfl
  ·have h00:za5 p (a+j)=0:=om;rw[h00];refine PW.e ?_;refine PW.us ?_;have hzs:zrs p n (16 - j) (a+j)=zrs p n (16 - (j+1)) (a+(j+1))+1:=by rw[show 16 - j=(16 - (j+1))+1 from om,zpR om h00];rfl
   by_cases h15:j=15
   ·have hr:tkU p n a= .er 2 a:=by subst h15;unfold tkU;rw[if_pos (by rw[hz,hzs];rfl)]
    have d:((j:Int)==15)=true:=by simp[h15]
    refine PW.g d ?_;refine PW.t ?_;refine PW.e ?_;refine PW.v (.tup [.int .i64 0,.int .i64 3]) ?_;rw[hr];exact Fin.cut (show _=H.set i (rA p n a)++[_] by rw[hself]) sp (zdL _ _ _ _ _) (.id (zgq _ _ _))
   ·have d:((j:Int)==15)=false:=by rw[beq_eq_false_iff_ne];omega
    refine PW.g d ?_;refine PW.us ?_;refine PW.e ?_;exact PL.at [0,4,5] (ih (16 - (j+1)) om (j+1) om om om rfl) rfl rfl
theorem zi8(i:Nat)(p:List UInt8)(n a:Nat)(H:za)(hA:H[i]? =some (rA p n a))(ha:a≤n)(hn:n≤8 * p.length)(hp:p.length≤100000000):
  CallOk Tryz.prog 261 [.ptr i 0 0] H (rvS (tkS p n a)) (H.set i (rA p n (tkS p n a).at)):=by
 have t:=zi7 i p n a H hA ha hn hp;unfold tkS;cases hu:tkU p n a with
 | er e a1=>
  rw[hu]at t;have he:=(zkH hu).2;have d:((e:Int)+1 !=0)=true:=by simp;omega
  simp only[Rr.bind,rvU,rvS,Rr.at]at t ⊢;generalize H.set i (rA p n a1)=Hz at *;refine CallOk.go Tryz.func261 Tryz.ntmps261 Tryz.results261 ?_;refine PW.e ?_;refine PW.f (fun K k=>by simp(disch:=omega) only[go_sem,↓reduceIte,reduceCtorEq];refine VCx.call (t) rfl ?_;simp(disch:=omega) only[go_sem,↓reduceIte,reduceCtorEq];exact k) ?_;refine PW.g d ?_;refine PW.t ?_;refine PW.e ?_;exact PW.ret ⟨_,rfl,Fin.now⟩
 | ok w a1=>
  rw[hu]at t;have hb:=(zeL hu ha).1;simp only[Rr.bind,rvU,rvS,Rr.at]at t ⊢;generalize H.set i (rA p n a1)=Hz at *;have hm:(w:Int).tmod 2=((w%2:Nat):Int):=zqe w 2;refine CallOk.go Tryz.func261 Tryz.ntmps261 Tryz.results261 ?_;refine PW.e ?_;refine PW.f (fun K k=>by simp(disch:=omega) only[go_sem,↓reduceIte,reduceCtorEq];refine VCx.call (t) rfl ?_;simp(disch:=omega) only[go_sem,↓reduceIte,reduceCtorEq];exact k) ?_;refine PW.e ?_;refine PW.us ?_;by_cases h2:w%2=1
  ·have hus:usg w=(((w+1) / 2:Nat):Int):=by unfold usg;rw[if_pos h2]
   rw[hus];have e1:(w:Int)+1=((w+1:Nat):Int):=om;have e2:(((w+1:Nat):Int)).tdiv 2=(((w+1) / 2:Nat):Int):=zv2 _ 2;refine PW.g (nq2 hm h2) ?_;refine PW.t ?_;refine PW.g (nq2 e1 e2) ?_;exact PW.ret ⟨_,rfl,Fin.now⟩
  ·have h3:w%2=0:=om;have hus:usg w= -((w / 2:Nat):Int):=by unfold usg;rw[if_neg h2]
   rw[hus];have e2:(-(w:Int)).tdiv 2= -((w / 2:Nat):Int):=by rw[Int.neg_tdiv];rfl
   refine PW.g (nq2 hm h3) ?_;refine PW.us ?_;refine PW.f (fun K k=>by simp(disch:=omega) only[go_sem,↓reduceIte,reduceCtorEq,Int.zero_sub,e2];exact k) ?_;exact PW.ret ⟨_,rfl,Fin.now⟩
theorem zil{x n:Int}(h:win x n=true): -n≤x∧x≤n:=by simpa[win]using h
theorem zts(x:Int)(H:za):CallOk Tryz.prog 314 [.int .i64 x] H (.bool (win x 4095)) H:=by refine CallOk.go Tryz.func314 Tryz.ntmps314 Tryz.results314 ?_;(repeat'(first|refine PW.seq ?_|refine PW.skip ?_|refine PW.block ?_|((first|refine PW.rg rfl fun K hK=> ?_|refine PW.draw mix kr fun K hK=> ?_);simp(disch:=omega) only[go_sem,↓reduceIte,reduceCtorEq])|((first|refine zh ?_ ?_|refine zk ?_ ?_|refine And.intro ?_ ?_)<;>intro h<;>(try simp only[nqb]at h)<;>simp(disch:=omega) only[go_sem,↓reduceIte,reduceCtorEq,h])|(refine hK _ _ ?_;clear hK K)|(refine PW.cond (t:=_) rfl (fun h=> ?_) (fun h=> ?_)<;>(try(cases h;done))<;>(try simp only[nqb]at h))));all_goals((refine PW.ret ⟨_,rfl,?_⟩;first|refine .inl ⟨?_,rfl⟩|refine Fin.base (.id' ?_ (.bool _))|refine Fin.base (.id' ?_ (.int _ _)));(simp_all[win,slot,qH]<;>first|rfl|omega|(rw[qB];simp;done)|(rw[qB];simp;omega)))
theorem zwH(fr:Nat)(H:za)(h:fr≤1):CallOk Tryz.prog 300 [.int .i64 (fr:Int)] H (.bool true) H:=by refine CallOk.go Tryz.func300 Tryz.ntmps300 Tryz.results300 ?_;have h2:fr=0∨fr=1:=om;rcases h2 with rfl|rfl<;>(repeat'(first|refine PW.seq ?_|refine PW.skip ?_|refine PW.block ?_|((first|refine PW.rg rfl fun K hK=> ?_|refine PW.draw mix kr fun K hK=> ?_);simp(disch:=omega) only[go_sem,↓reduceIte,reduceCtorEq])|((first|refine zh ?_ ?_|refine zk ?_ ?_|refine And.intro ?_ ?_)<;>intro h<;>(try simp only[nqb]at h)<;>simp(disch:=omega) only[go_sem,↓reduceIte,reduceCtorEq,h])|(refine hK _ _ ?_;clear hK K)|(refine PW.cond (t:=_) rfl (fun h=> ?_) (fun h=> ?_)<;>(try(cases h;done))<;>(try simp only[nqb]at h))));all_goals((refine PW.ret ⟨_,rfl,?_⟩;first|refine .inl ⟨?_,rfl⟩|refine Fin.base (.id' ?_ (.bool _))|refine Fin.base (.id' ?_ (.int _ _)));rfl)
end Go.Proofs.YtpjlfoficnpfoaaGreatDoor.Sc
namespace Go.Proofs.YtpjlfoficnpfoaaGreatDoor.Pm
set_option linter.all false
open Go.RowKit
variable {P:Program} {C:Ctx} {H K:za} {w:World} {F:Fr} {a:Act} {N:Nat}
def zjH(rs:List (Nat×Nat))(o:Oper):Bool:=match zmq rs o with|some _=>false|none=> !zJ o.op&& !eff o.op
def zgA(ds:List (Option Nat))(rs:List (Nat×Nat))(x o:Oper):Bool:=clear ds x o&&clear ds o x&&zjH rs x&&zjH rs o
def ExT(P:Program)(all:List Oper)(ids:List Nat)(rs:List (Nat×Nat))(o:Oper)(f:Nat→PV)(H:za)(v:PV)(H':za):Prop:=(zbs all f o=some false∧v= .tup []∧H'=H)∨(zbs all f o=some true∧StI P ids rs o f H v H')
theorem ExT.congr{all:List Oper}{ids:List Nat}{rs:List (Nat×Nat)}{o:Oper}{f g:Nat→PV}{v:PV}{H':za}(h:∀ t∈ziD (all.map (·.dst)) o,f t=g t)(he:ExT P all ids rs o f H v H'):ExT P all ids rs o g H v H':=by have e1:zbs all f o=zbs all g o:=zc6 fun t ht=>h t (List.mem_append.2 (.inr ht));have e2:∀ x∈o.op.operands.toList,ev f x=ev g x:=fun x hx=>zfd fun t ht=>h t (List.mem_append.2 (.inl (ze0 (ht▸hx))));unfold ExT StI at he ⊢;simp only[←e1,←zbN e2,←zhh e2];exact he
theorem ExT.same{all:List Oper}{ids:List Nat}{rs:List (Nat×Nat)}{o:Oper}{f:Nat→PV}{v:PV}{H':za}(hn:zjH rs o=true)(he:ExT P all ids rs o f H v H'):H'=H:=by
 rcases he with⟨_,_,e⟩|⟨_,h⟩
 ·exact e
 unfold zjH at hn;cases hr:zmq rs o with
 | some p=>rw[hr]at hn;cases hn
 | none=>rw[hr]at hn;simp only[qJ,Bool.not_eq_true']at hn;unfold StI at h;rw[zdk hn.1]at h;dsimp only at h;unfold zeu at h;rw[hr]at h;exact zcR hn.2 h
theorem zy6{all:List Oper}{ids:List Nat}{rs:List (Nat×Nat)}:zoW (ExT P all ids rs) (zgA (all.map (·.dst)) rs):=by intro x o f H vx Hx v H1 hc hx ho;unfold zgA at hc;simp only[qJ]at hc;obtain⟨⟨⟨c1,c2⟩,c3⟩,c4⟩:=hc;obtain rfl:=hx.same c3;obtain rfl:=ho.same c4;exact⟨H1,ho.congr fun t ht=>zcj (zbp c1 t ht),hx.congr fun t ht=>(zcj (zbp c2 t ht)).symm,zgP (f:=f) (u:=vx) (v:=v) (zfY c1)⟩
theorem zy9{ops:Array Oper}{ids:List Nat}{rs:List (Nat×Nat)}:ztw P N ops (ExT P ops.toList ids rs):=by
 intro o f H v H' C a w hd hw hf he;rcases he with⟨h1,h2,h3⟩|⟨h1,h2⟩
 ·have hwant:=zR hf h1;rw[qS]at hwant;exact .inl ⟨hwant,h2,h3⟩
 ·have hwant:=zR hf h1;rw[qS]at hwant;exact .inr ⟨hwant,fun next Q hn=>zfz hd hw hf h2 _ _ hn⟩
theorem zlY{all:List Oper}{ids:List Nat}{rs:List (Nat×Nat)}{K:Fr→za→Prop}:∀(l:List Oper) (F:Fr) (H:za),VOi P false ids [] rs [] (all.map (·.dst)) l (some (F,H)) K→RunG (ExT P all ids rs) l (slot F) H (fun f H'=>∃ F',f=slot F'∧K F' H')
 | [],F,H,h=>⟨F,rfl,h⟩
 | o::r,F,H,h=>by
  simp only[VOi]at h;have go:∀ v H',ExT P all ids rs o (slot F) H v H'→VOi P false ids [] rs [] (all.map (·.dst)) r (some (put F o.dst v,H')) K→RunG (ExT P all ids rs) (o::r) (slot F) H (fun f H'=>∃ F',f=slot F'∧K F' H'):=fun v H' he hr=>by refine⟨v,H',he,?_⟩;rw[←zad];exact zlY r _ _ hr
  cases hc:zJ o.op with
  | false=>
   simp only[hc]at h;unfold zo4 at h;split at h
   ·rw[zcx]at h;exact h.elim
   ·rename_i b hb;cases b with
    | false=>exact go _ _ (.inl ⟨zt all F o hb,rfl,rfl⟩) h
    | true=>
     simp only[cond_true,Bool.not_false,Bool.true_or]at h;split at h
     ·rename_i v H' hp;exact go v H' (.inr ⟨zt all F o hb,by unfold StI;rw[zdk hc];exact hp⟩) h
     ·rw[zcx]at h;exact h.elim
  | true=>
   simp only[hc]at h;unfold VCi at h;split at h
   ·exact h.elim
   ·rename_i b hb;cases b with
    | false=>exact go _ _ (.inl ⟨zt all F o hb,rfl,rfl⟩) (h.2 rfl)
    | true=>
     have h:=h.1 rfl;unfold VCj at h;split at h
     ·rename_i fn args hp;obtain⟨v,H',h1,h2⟩:=h;exact go v H' (.inr ⟨zt all F o hb,by unfold StI;rw[hp];exact h1⟩) h2
     ·exact h.elim
theorem PW.drawt{E:Env}{Q:Exit→Fr→za→Prop}{id:Nat}{ops:Array Oper}(ids:List Nat)(rs:List (Nat×Nat))(hm:P.follows .mixedOrders=true)(hd:zj4 (zgA (ops.toList.map (·.dst)) rs) E.N ops.toList=true)
  (h:∀ K:Fr→za→Prop,(∀ F' H',Q .normal F' H'→K F' H')→VOi P false ids [] rs [] (ops.toList.map (·.dst)) ops.toList (some (F,H)) K):PW P E (.region id ops true) F H Q:=fun hs C a w hdf hw hf=>by
 refine wp_region_any hm ?_;have hr:=zlY (P:=P) _ _ _ (h (fun F' H'=>Q .normal F' H') fun _ _ h=>h);have hall:∀ i,i<ops.toList.length→zhS (zgA (ops.toList.map (·.dst)) rs) (zf9 ops.toList) E.N ops.toList i=true:=by intro i hi;unfold zj4 at hd;exact List.all_eq_true.1 hd i (List.mem_range.2 hi)
 refine zoQ (P:=P) hall zy6 zy9 ops.size (qK ops.size false) (slot F) H C a w.drew sp ?_ (by rw[zbY];simp) (by rw[zbY,zgI];exact hr) hdf hw.drew hf ?_
 ·intro i o ho hl j hj;have hi:i<ops.size:=(Array.getElem?_eq_some_iff.1 ho).1;simp[Array.getD,hi]at hl
 ·rintro C' f' H' a' w' p1 p2 p3 p4 p5 ⟨F',rfl,p6⟩;exact⟨C',F',H',p1.toN _,p2,p3,((Below.refl C.B w).drew).trans p4,p5,p6⟩
theorem VCj.now{ids:List Nat}{fp:Fp}{rs:List (Nat×Nat)}{o:Oper}{K:Fr→za→Prop}{g:FuncId}{args:List PV}{v:PV}{H':za}(h:CallOk P g args H v H')(hc:zq o.op (slot F)=some (g,args))(hk:K (put F o.dst v) H'):VCj P false ids fp rs o F H K:=by unfold VCj;simp only[hc];exact⟨v,H',h,hk⟩
end Go.Proofs.YtpjlfoficnpfoaaGreatDoor.Pm
namespace Go.Proofs.YtpjlfoficnpfoaaGreatDoor.Pm
set_option linter.all false
open Go.RowKit
variable {P:Program} {C:Ctx} {H:za} {w:World} {F:Fr} {a:Act} {N:Nat}
def CallPan(P:Program)(f:FuncId)(args:List PV)(H:za)(ch:List PanicEntry)(H':za):Prop:=
 zaB P f=true∧∀(C:Ctx) (us:List Value) (w:World),WRel C H w→VRels C args us→
  Calls P f us.toArray w fun e w'=>∃ C',CLe C C'∧WRel C' H' w'∧Below C.B w w'∧e= .panicked ch
theorem zcN{all:List Oper}{K:Fr→za→Prop}{D:List Deferred}{rest:List Oper}:∀(l:List Oper) (F:Fr) (H:za),l.all (zQ N)=true→zbD P all l K F H→∀(C:Ctx) (a:Act) (w:World),a.defers=D→WRel C H w→FRel C N (slot F) a→
  ∀ Q:Exit→Act→World→Prop,(∀ C' F' H' a' w',CLe C C'→a'.defers=D→WRel C' H' w'→Below C.B w w'→FRel C' N (slot F') a'→K F' H'→wpList P all.toArray Q rest a' w')→wpList P all.toArray Q (l++rest) a w
 | [],F,H,_,h,C,a,w,hd,hw,hf,Q,hQ=>hQ C F H a w (.refl _) hd hw (.refl _ _) hf h
 | o::r,F,H,hall,h,C,a,w,hd,hw,hf,Q,hQ=>by
  simp only[List.all_cons,qJ]at hall;simp only[zbD]at h;rw[List.cons_append];split at h
  ·rename_i b hb;have hwant:=zR hf hb;unfold wpList;cases b with
   | true=>
    rw[if_pos hwant];left;have h1:=h.1 rfl;have step:∀ R,zcG P o (slot F) H R→(∀ v H',R v H'→zbD P all r K (put F o.dst v) H')→o.wp P a w (wpList P all.toArray Q (r++rest)) Q:=fun R he hr=>by refine zb0 hall.1 hw hf he _ _ fun C' u w' v H' q0 q1 q2 q3 q4=> ?_;rw[←zad]at q4;refine zcN (D:=D) (rest:=rest) r _ _ hall.2 (hr v H' q0) C' _ w' (by cases ho:o.dst<;>simp[Act.put,hd]) q2 q4 Q ?_;intro C'' F'' H'' a'' w'' p1 p2 p3 p4 p5 p6;exact hQ C'' F'' H'' a'' w'' (q1.trans p1) p2 p3 (q3.trans (by rw[←q1.B];exact p4)) p5 p6
    split at h1
    ·rename_i g args hc;obtain⟨R,hcall,hr⟩:=h1;exact step R (by unfold zcG;rw[hc];exact hcall) hr
    ·rename_i hc;split at h1
     ·rename_i v H' hp;exact step (fun v' H''=>v'=v∧H''=H') (by unfold zcG;rw[hc];exact⟨v,H',hp,rfl,rfl⟩) (fun v' H'' e=>by rw[e.1,e.2];exact h1)
     ·exact h1.elim
   | false=>rw[if_neg (by rw[hwant];simp)];have h2:=h.2 rfl;have q4:=hf.put o.dst (zaA hall.1) (VRel.undefV (C:=C));rw[←zad]at q4;exact zcN (D:=D) (rest:=rest) r _ _ hall.2 h2 C _ w (by cases ho:o.dst<;>simp[Act.put,hd]) hw q4 Q hQ
  ·exact h.elim
theorem zei{o:Oper}{f:Nat→PV}{g:FuncId}{args:List PV}{ch:List PanicEntry}{H':za}(hw:WRel C H w)(hf:FRel C N f a)(hc:zq o.op f=some (g,args))(h:CallPan P g args H ch H')
  (next:Act→World→Prop) (Q:Exit→Act→World→Prop) (hn:∀ C' w',CLe C C'→WRel C' H' w'→Below C.B w w'→FRel C' N f a→Q (.panic ch) a w'):o.wp P a w next Q:=by
 unfold zq at hc;split at hc
 ·rename_i x xs ts ho;split at hc
  ·rename_i f' first captured hfv
   simp only[Option.some.injEq,Prod.mk.injEq]at hc;obtain⟨rfl,rfl⟩:=hc;have hv:=zy hf x;rw[hfv]at hv;obtain⟨us,ws,hl,hl',hR,hR',he⟩:∃ us ws,us.length=first.length∧ws.length=captured.length∧Rel C first us∧Rel C captured ws∧a.eval x= .func (.func f') us.toArray ws.toArray:=by
    generalize a.eval x=q at hv;cases hv with
    | func hl hl' hR hR'=>exact⟨_,_,hl,hl',hR,hR',rfl⟩
   obtain⟨hal,har⟩:=zd8 hf xs.toList;have hrun:(execOp a.eval o).run P w= .ok (.enter f' (us++xs.toList.map a.eval++ws).toArray) w:=by
    have e1:us.toArray++xs.map a.eval++ws.toArray=(us++xs.toList.map a.eval++ws).toArray:=by apply Array.ext';simp
    simp only[execOp,ho,resolve,he,Deferred.ofValue,invoke,Sem.run_bind,Sem.run_pure,Result.andThen_ok,zc8 h.1,e1]
   unfold Oper.wp;rw[hrun,Oper.upon_enter];refine(h.2 C _ w hw ⟨by simp[hl,hl'],Rel.append (by simp[hl]) (Rel.append hl hR har) hR'⟩).mono ?_;rintro e w' ⟨C',q1,q2,q3,rfl⟩;exact hn C' w' q1 q2 q3 (hf.mono q1)
  ·cases hc
 ·cases hc
section rules
variable {E:Env} {Q:Exit→Fr→za→Prop}
theorem PW.region_pan{id:Nat}{ops:Array Oper}(n:Nat)(hd:(ops.toList.take n).all (zQ E.N)=true)
  (h:zbD P ops.toList (ops.toList.take n) (fun F' H'=>∃ o r g args ch H'',ops.toList.drop n=o::r∧zbs ops.toList (slot F') o=some true∧zq o.op (slot F')=some (g,args)∧CallPan P g args H' ch H''∧Q (.panic ch) F' H'') F H):
  PW P E (.region id ops false) F H Q:=fun hs C a w hdf hw hf=>by
 refine wp_region_list ?_;have:=zcN (P:=P) (all:=ops.toList) (rest:=ops.toList.drop n) (ops.toList.take n) F H hd h C a w hdf hw hf (Post E C w Q) (fun C' F' H' a' w' p1 p2 p3 p4 p5 p6=>by
  obtain⟨o,r,g,args,ch,H'',e1,e2,e3,e4,e5⟩:=p6;rw[e1];unfold wpList;rw[if_pos (zR p5 e2)];left;exact zei p3 p5 e3 e4 _ _ fun C'' w'' r1 r2 r3 r4=>⟨C'',F',H'',(p1.trans r1).toN _,p2,r2,p4.trans (by rw[←p1.B];exact r3),r4,e5⟩)
 rw[qR]at this;simpa using this
end rules
def zAg(H:za)(Hout:za)(H':za):Prop:=H'=Hout∨(∃ K,H'=H++K∧Hout=H)∨(HSc H→H.length≤Hout.length∧CutH H' Hout)
def zzv(ch:List PanicEntry)(H Hout:za):Exit→Fr→za→Prop
 | .panic ch',_,H'=>ch'=ch∧zAg H Hout H'
 | _,_,_=>False
theorem CallPan.intro{f:FuncId}{fn:Func}{c:Code}{args:List PV}{ch:List PanicEntry}{Hout:za}(hf:P.funcs[f]? =some fn)(hb:fn.body=some c)(hcall:zaB P f=true)(hn:args.length≤fn.ntmps)
  (h:PW P ⟨fn.ntmps,H⟩ c (zb2 args 0) H (zzv ch H Hout)):CallPan P f args H ch Hout:=by
 refine⟨hcall,fun C us w hw hargs=>calls_of_wp hf hb ?_⟩;have hfr:FRel C fn.ntmps (slot (zb2 args 0)) { tmps:=us.toArray++qK (fn.ntmps - us.toArray.size) Go.undef,defers:=[] }:=by
  refine⟨by simp[hargs.1];omega,fun t=> ?_⟩;rw[zcX];simp only[Nat.zero_le,if_true,Nat.sub_zero];by_cases ht:t<args.length
  ·have htu:t<us.length:=by rw[hargs.1];exact ht
   have e1:args.getD t .undef=args[t]:=by simp[List.getD,ht]
   have e2:(us.toArray++qK (fn.ntmps - us.toArray.size) Go.undef).getD t Go.undef=us[t]:=by rw[Array.getD_eq_getD_getElem?,Array.getElem?_append_left (by simpa using htu)];simp[htu]
   rw[e1,e2];exact hargs.2 t _ _ (qP ht) (qP htu)
  ·have e1:args.getD t .undef= .undef:=by simp[List.getD,List.getElem?_eq_none (by omega:args.length≤t)]
   rw[e1];exact .undef _
 refine wp_mono (h hw.hsc C _ w rfl hw hfr) ?_;rintro e a' w' ⟨C',F',H',q1,q2,q3,q4,q5,q6⟩;have q1':=q1.full hw.lenv;cases e with
 | panic ch'=>
  obtain⟨rfl,hp⟩:=q6;refine⟨q2,?_⟩;rcases hp with rfl|⟨K,rfl,rfl⟩|hp
  ·exact⟨C',q1',q3,q4,rfl⟩
  ·obtain⟨g1,g2⟩:=WRel.give hw q1' q3;exact⟨_,g1,g2,q4,rfl⟩
  ·obtain⟨hlen,hcut⟩:=hp hw.hsc;obtain⟨g1,g2⟩:=q3.cutN hcut;exact⟨_,(q1.trans (g1.less hlen)).full hw.lenv,g2,q4,rfl⟩
 | _=>exact q6.elim
theorem CallPan.body{f:FuncId}{fn:Func}{c:Code}{F0:Fr}{args:List PV}{ch:List PanicEntry}{Hout:za}(hf:P.funcs[f]? =some fn)(hb:fn.body=some c)(hN:fn.ntmps=N)(hF:zb2 args 0=F0)
  (hcall:zaB P f=true) (hn:Nat.ble args.length N=true) (h:PW P ⟨N,H⟩ c F0 H (zzv ch H Hout)):CallPan P f args H ch Hout:=by
 subst hN hF;exact CallPan.intro hf hb hcall (qE hn) h
end Go.Proofs.YtpjlfoficnpfoaaGreatDoor.Pm
namespace Go.Proofs.YtpjlfoficnpfoaaGreatDoor.Pm
set_option linter.all false
open Go.RowKit
variable {P:Program} {C:Ctx} {H:za} {w:World} {F:Fr} {a:Act} {N:Nat}
def pnc(ty:TypeId)(k:IntKind)(e:Int):List PanicEntry:=[{ v:=.iface ty (.agg #[.int k e]),recovered:=false }]
theorem ztt{C:Ctx}{k:IntKind}{e:Int}{u:Value}(h:VRel C (.agg [.int k e]) u):u= .agg #[.int k e]:=by
 cases h with
 | agg hl hc hR=>
  rename_i us
  match us,hl with
  | [y],_=>have:=hR 0 _ _ rfl rfl;cases this;rfl
section rules
variable {E:Env} {Q:Exit→Fr→za→Prop}
theorem PW.raise{id:Nat}{ops:Array Oper}(n:Nat){s d:Nat}{ty:TypeId}{k:IntKind}{e:Int}(hd:(ops.toList.take n).all (zQ E.N)=true)(hdN:d<E.N)(hty:P.concrete ty=true)
  (h:zbD P ops.toList (ops.toList.take n) (fun F' H'=>∃ o1 o2 r,ops.toList.drop n=o1::o2::r∧o1.guard=none∧o2.guard=none∧o1.op= .makeInterface ty (.tmp s)∧o1.dst=some d∧o2.op= .panic (.tmp d)∧slot F' s= .agg [.int k e]∧Q (.panic (pnc ty k e)) (put F' (some d) .undef) H') F H):
  PW P E (.region id ops false) F H Q:=fun hs C a w hdf hw hf=>by
 refine wp_region_list ?_;have:=zcN (P:=P) (all:=ops.toList) (rest:=ops.toList.drop n) (ops.toList.take n) F H hd h C a w hdf hw hf (Post E C w Q) (fun C' F' H' a' w' p1 p2 p3 p4 p5 p6=>by
  obtain⟨o1,o2,r,e1,g1,g2,x1,d1,x2,hsl,hq⟩:=p6;rw[e1];have hv:=p5.2 s;rw[hsl]at hv;have hu:=ztt hv;have hsz:=p5.1;have w1:∀ a0:Act,Region.wanted o1 (yielded ops.toList.toArray a0.tmps)=true:=fun a0=>by simp[Region.wanted,g1]
  have w2:∀ a0:Act,Region.wanted o2 (yielded ops.toList.toArray a0.tmps)=true:=fun a0=>by simp[Region.wanted,g2]
  have r1:(execOp a'.eval o1).run P w'= .ok (.value (.iface ty (.agg #[.int k e]))) w':=by simp only[execOp,x1];have:a'.eval (.tmp s)= .agg #[.int k e]:=hu;rw[this];simp only[Sem.run_bind,run_makeInterface _ _ _ hty,Result.andThen_ok,Sem.run_pure]
  unfold wpList;rw[if_pos (w1 _)];left;unfold Oper.wp;rw[r1,Oper.upon_value];unfold wpList;rw[if_pos (w2 _)];left;have hlt:d<a'.tmps.size:=om;have r2:(execOp (a'.put o1.dst (.iface ty (.agg #[.int k e]))).eval o2).run P w'= .halt (.panic (.iface ty (.agg #[.int k e]))) w':=by
   simp only[execOp,x2];have:(a'.put o1.dst (.iface ty (.agg #[.int k e]))).eval (.tmp d)= .iface ty (.agg #[.int k e]):=by rw[d1];simp[Act.put,Act.eval,hlt]
   rw[this];simp only[Sem.run_bind,run_panic_iface,Result.andThen_halt]
  unfold Oper.wp;rw[r2,Oper.upon_panic];have q4:=p5.put (some d) (fun t ht=>by injection ht with ht;omega) (VRel.undef (C:=C') (.iface ty (.agg #[.int k e])));rw[←zad]at q4;exact⟨C',_,H',p1.toN _,by rw[d1];simpa[Act.put]using p2,p3,p4,by rw[d1];exact q4,hq⟩)
 rw[qR]at this;simpa using this
theorem PW.raiseV{id:Nat}{ops:Array Oper}(n:Nat){s d:Nat}{ty:TypeId}{k:IntKind}{e:Int}(hd:(ops.toList.take n).all (zQ E.N)=true)
  (hs:∃ o1 o2 r,ops.toList.drop n=o1::o2::r∧o1.guard=none∧o2.guard=none∧o1.op= .makeInterface ty (.tmp s)∧o1.dst=some d∧o2.op= .panic (.tmp d)) (hdN:d<E.N) (hty:P.concrete ty=true)
  (h:∀ K:Fr→za→Prop,(∀ F' H',slot F' s= .agg [.int k e]→Q (.panic (pnc ty k e)) (put F' (some d) .undef) H'→K F' H')→VO P (ops.toList.map (·.dst)) (ops.toList.take n) (some (F,H)) K):PW P E (.region id ops false) F H Q:=by
 obtain⟨o1,o2,r,e1,e2,e3,e4,e5,e6⟩:=hs;exact PW.raise n hd hdN hty (zao _ _ _ (h _ fun F' H' h1 h2=>⟨o1,o2,r,e1,e2,e3,e4,e5,e6,h1,h2⟩))
theorem PW.panV{id:Nat}{ops:Array Oper}(n:Nat){o:Oper}(hd:(ops.toList.take n).all (zQ E.N)=true)(hs:∃ o' r,ops.toList.drop n=o'::r∧(o'=o∧o'.guard=none))
  (h:∀ K:Fr→za→Prop,(∀ F' H' g args ch H'',zq o.op (slot F')=some (g,args)→CallPan P g args H' ch H''→Q (.panic ch) F' H''→K F' H')→VO P (ops.toList.map (·.dst)) (ops.toList.take n) (some (F,H)) K):PW P E (.region id ops false) F H Q:=by
 obtain⟨o',r,e1,rfl,e2⟩:=hs;exact PW.region_pan n hd (zao _ _ _ (h _ fun F' H' g args ch H'' h1 h2 h3=>⟨o',r,g,args,ch,H'',e1,by unfold zbs;rw[e2],h1,h2,h3⟩))
end rules
end Go.Proofs.YtpjlfoficnpfoaaGreatDoor.Pm
namespace Go.Proofs.YtpjlfoficnpfoaaGreatDoor.Sc
set_option linter.all false
open Pm Ty Go.RowKit
def tkB(q:List UInt8)(n:Nat):Nat→Nat→Nat→List Int→Rr (List Int)
 | 0,_,a,_=>.er 2 a
 | f+1,p,a,l=>(tkU q n a).bind fun v a1=>if v=0 then .ok l a1 else if 64<p+v then .er 2 a1 else
  (tkS q n a1).bind fun w a2=>if w=0 then .er 2 a2 else if win w 4095=false then .er 2 a2 else tkB q n f (p+v) a2 (l.set (p+v - 1) w)
def z64:List Int:=qM 64 0
def zfx(q:List UInt8)(n fr a:Nat):Rr (List Int):=tkB q n 65 fr a z64
theorem zio{q:List UInt8}{n:Nat}:∀(f p a:Nat) (l:List Int) {l':List Int} {a':Nat},tkB q n f p a l= .ok l' a'→a≤n→a<a'∧a'≤n∧l'.length=l.length
 | 0,p,a,l,l',a',h,ha=>by simp[tkB]at h
 | f+1,p,a,l,l',a',h,ha=>by
  simp only[tkB]at h;cases hu:tkU q n a with
  | er e a1=>rw[hu]at h;cases h
  | ok v a1=>
   have b1:=zeL hu ha;rw[hu,Rr.bind_ok]at h;split at h
   ·injection h with h1 h2;subst h1 h2;exact⟨b1.2.1,b1.2.2,rfl⟩
   ·split at h
    ·cases h
    ·cases hv:tkS q n a1 with
     | er e a2=>rw[hv]at h;cases h
     | ok w a2=>
      have b2:=zeM hv b1.2.2;rw[hv,Rr.bind_ok]at h;split at h
      ·cases h
      ·split at h
       ·cases h
       ·have:=zio f (p+v) a2 _ h b2.2.2;rw[qA]at this;exact⟨om,this.2.1,this.2.2⟩
theorem zqr{q:List UInt8}{n:Nat}:∀(f p a:Nat) (l:List Int) {e a':Nat},tkB q n f p a l= .er e a'→a≤n→a≤a'∧a'≤n∧e≤3
 | 0,p,a,l,e,a',h,ha=>by
  simp only[tkB]at h;injection h with h1 h2;omega
 | f+1,p,a,l,e,a',h,ha=>by
  simp only[tkB]at h;cases hu:tkU q n a with
  | er e1 a1=>
   rw[hu]at h;have:=zkH hu;injection h with h1 h2;omega
  | ok v a1=>
   have b1:=zeL hu ha;rw[hu,Rr.bind_ok]at h;split at h
   ·cases h
   ·split at h
    ·injection h with h1 h2;omega
    ·cases hv:tkS q n a1 with
     | er e2 a2=>
      rw[hv]at h;have:=znu hv;injection h with h1 h2;omega
     | ok w a2=>
      have b2:=zeM hv b1.2.2;rw[hv,Rr.bind_ok]at h;split at h
      ·injection h with h1 h2;omega
      ·split at h
       ·injection h with h1 h2;omega
       ·have:=zqr f (p+v) a2 _ h b2.2.2;omega
def bpn(e:Nat):List PanicEntry:=pnc 362 .i64 ((e:Int)+1)
theorem zn5(v:Int)(H:za):CallOk Tryz.prog 313 [.int .i64 v,.int .i64 0] H (.int .i64 v) H:=by refine CallOk.go Tryz.func313 Tryz.ntmps313 Tryz.results313 ?_;(repeat'(first|refine PW.seq ?_|refine PW.skip ?_|refine PW.block ?_|((first|refine PW.rg rfl fun K hK=> ?_|refine PW.draw mix kr fun K hK=> ?_);simp(disch:=omega) only[go_sem,↓reduceIte,reduceCtorEq])|((first|refine zh ?_ ?_|refine zk ?_ ?_|refine And.intro ?_ ?_)<;>intro h<;>(try simp only[nqb]at h)<;>simp(disch:=omega) only[go_sem,↓reduceIte,reduceCtorEq,h])|(refine hK _ _ ?_;clear hK K)|(refine PW.cond (t:=_) rfl (fun h=> ?_) (fun h=> ?_)<;>(try(cases h;done))<;>(try simp only[nqb]at h))));all_goals exact PW.ret ⟨_,rfl,Fin.now⟩
theorem zlu(e:Nat)(H:za):CallPan Tryz.prog 313 [.int .i64 0,.int .i64 ((e:Int)+1)] H (bpn e) H:=by
 have d:((e:Int)+1 !=0)=true:=by simp;omega
 refine CallPan.body (F0:=[(0,.int .i64 0),(1,.int .i64 ((e:Int)+1))]) Tryz.func313 rfl Tryz.ntmps313 rfl kr rfl ?_;refine PW.e ?_;refine PW.g d ?_;refine PW.t ?_;(repeat refine PW.seq ?_);refine PW.raiseV (k:=.i64) (e:=(e:Int)+1) 2 rfl ⟨_,_,_,rfl,rfl,rfl,rfl,rfl,rfl⟩ (qE rfl) kr fun K hK=> ?_;simp(disch:=omega) only[go_sem,↓reduceIte,reduceCtorEq];refine hK _ _ rfl ?_;clear hK K;exact⟨rfl,.inl rfl⟩
def rdH(H:za)(i:Nat)(p:List UInt8)(n a:Nat)(l:List Int):za:=H.set i (rA p n a)++[⟨146,0,is z64⟩,⟨146,0,is l⟩]
section
variable (H:za) (i:Nat) (p:List UInt8) (n a:Nat) (l:List Int)
theorem znO(hi:i<H.length):(rdH H i p n a l)[i]? =some (rA p n a):=by unfold rdH;rw[qO (by simpa using hi)];simp[hi]
theorem zfE(hi:i<H.length)(a':Nat):(rdH H i p n a l).set i (rA p n a')=rdH H i p n a' l:=by unfold rdH;rw[qT _ _ (by simpa using hi),List.set_set]
theorem zzl:(rdH H i p n a l)[H.length]? =some ⟨146,0,is z64⟩:=by have:=hp0 (H.set i (rA p n a)) [⟨146,0,is l⟩] ⟨146,0,is z64⟩;rwa[qA]at this
theorem zha:(rdH H i p n a l)[H.length+1]? =some ⟨146,0,is l⟩:=by have:=hp1 (H.set i (rA p n a)) [] ⟨146,0,is z64⟩ ⟨146,0,is l⟩;rwa[qA]at this
theorem zre(l':List Int):(rdH H i p n a l).set (H.length+1) ⟨146,0,is l'⟩=rdH H i p n a l':=by have:=hs1 (H.set i (rA p n a)) [] ⟨146,0,is z64⟩ ⟨146,0,is l⟩ ⟨146,0,is l'⟩;rwa[qA]at this
theorem zxj(l':List Int):(rdH H i p n a l).set H.length ⟨146,0,is l'⟩=H.set i (rA p n a)++[⟨146,0,is l'⟩,⟨146,0,is l⟩]:=by have:=hs0 (H.set i (rA p n a)) [⟨146,0,is l⟩] ⟨146,0,is z64⟩ ⟨146,0,is l'⟩;rwa[qA]at this
end
theorem zg9(H:za)(i:Nat)(p:List UInt8)(n a:Nat)(l:List Int):zAg H (H.set i (rA p n a)) (rdH H i p n a l):=.inr (.inr fun h=>⟨by simp,CutH.base (zdL _ _ _ _ _ h)⟩)
set_option maxHeartbeats 1000000 in
theorem zrd(i:Nat)(p:List UInt8)(n a fr e a':Nat)(H:za)(hA:H[i]? =some (rA p n a))(ha:a≤n)(hn:n≤8 * p.length)(hp:p.length≤100000000)(hfr:fr≤1)(hr:zfx p n fr a= .er e a'):
  CallPan Tryz.prog 302 [.ptr i 0 0,.int .i64 (fr:Int)] H (bpn e) (H.set i (rA p n a')):=by
 have hi:=(qC.1 hA).1;have hself:=zaO hA;have al:=fun x K=>zts x K;have mo:=fun v K=>zn5 v K;have mp:=fun e K=>zlu e K;refine CallPan.body (F0:=[(0,.ptr i 0 0),(1,.int .i64 (fr:Int))]) Tryz.func302 rfl Tryz.ntmps302 rfl kr rfl ?_;refine PW.e ?_;refine PW.e ?_;refine PW.e ?_;refine PW.l ?_;suffices hl:∀(f at' a:Nat) (l:List Int),at'≤64→64 - at'<f→a≤n→l.length=64→tkB p n f at' a l= .er e a'→PL Tryz.prog _ _ [(0,.ptr i 0 0),(4,.ptr H.length 0 0),(5,.ptr (H.length+1) 0 0),(6,.int .i64 ((at':Int) - 1))] (rdH H i p n a l) _ by exact PL.at [0,4,5,6] (hl 65 fr a z64 om om ha (by simp[z64]) hr) rfl (by unfold rdH;rw[hself];rfl)
 clear hr hself hA ha;intro f;induction f with
 | zero=>intro at' a l h1 h2;omega
 | succ f ih=>
  intro at' a l h1 h2 ha hll hr;have tu:=zi7 i p n a (rdH H i p n a l) (znO H i p n a l hi) ha hn hp;simp only[tkB]at hr;refine PL.round ?_;refine PW.b ?_;cases hu:tkU p n a with
  | er e1 a1=>
   rw[hu,Rr.bind_er]at hr;injection hr with r1 r2;subst r1 r2;rw[hu]at tu;simp only[rvU,Rr.at,zfE _ _ _ _ _ _ hi]at tu;(repeat refine PW.seq ?_);refine PW.panV 4 rfl ⟨_,_,rfl,rfl,rfl⟩ fun K hK=> ?_;simp(disch:=omega) only[go_sem,↓reduceIte,reduceCtorEq];refine VCx.call (tu) rfl ?_;simp(disch:=omega) only[go_sem,↓reduceIte,reduceCtorEq];exact hK _ _ _ _ _ _ rfl (mp _ _) ⟨rfl,zg9 ..⟩
  | ok v a1=>
   have b1:=zeL hu ha;rw[hu,Rr.bind_ok]at hr;rw[hu]at tu;simp only[rvU,Rr.at,zfE _ _ _ _ _ _ hi]at tu;have hv0:¬ v=0:=fun e0=>by rw[if_pos e0]at hr;cases hr
   rw[if_neg hv0]at hr;have d1:((v:Int)==0)=false:=by rw[beq_eq_false_iff_ne];omega
   (repeat refine PW.seq ?_);refine PW.rg rfl fun K hK=> ?_;simp(disch:=omega) only[go_sem,↓reduceIte,reduceCtorEq];refine VCx.call (tu) rfl ?_;simp(disch:=omega) only[go_sem,↓reduceIte,reduceCtorEq];refine VCx.call (mo _ _) rfl ?_;simp(disch:=omega) only[go_sem,↓reduceIte,reduceCtorEq];refine hK _ _ ?_;clear hK K;refine PW.g d1 ?_;refine PW.us ?_;refine PW.e ?_;have e1:(at':Int) - 1+(v:Int)=((at'+v:Nat):Int) - 1:=om;by_cases h64:64<at'+v
   ·rw[if_pos h64]at hr;injection hr with r1 r2;subst r1 r2;have d2:decide ((64:Int)≤((at'+v:Nat):Int) - 1)=true:=decide_eq_true om;refine PW.g (nq2 e1 d2) ?_;refine PW.t ?_;(repeat refine PW.seq ?_);refine PW.raiseV (k:=.i64) (e:=3) 1 rfl ⟨_,_,_,rfl,rfl,rfl,rfl,rfl,rfl⟩ (qE rfl) kr fun K hK=> ?_;simp(disch:=omega) only[go_sem,↓reduceIte,reduceCtorEq];refine hK _ _ rfl ?_;clear hK K;exact⟨rfl,zg9 ..⟩
   rw[if_neg h64]at hr;have d2:decide ((64:Int)≤((at'+v:Nat):Int) - 1)=false:=decide_eq_false om;refine PW.g (nq2 e1 d2) ?_;refine PW.us ?_;have ts:=zi8 i p n a1 (rdH H i p n a1 l) (znO H i p n a1 l hi) b1.2.2 hn hp;cases hw:tkS p n a1 with
   | er e2 a2=>
    rw[hw,Rr.bind_er]at hr;injection hr with r1 r2;subst r1 r2;rw[hw]at ts;simp only[rvS,Rr.at,zfE _ _ _ _ _ _ hi]at ts;(repeat refine PW.seq ?_);refine PW.panV 5 rfl ⟨_,_,rfl,rfl,rfl⟩ fun K hK=> ?_;simp(disch:=omega) only[go_sem,↓reduceIte,reduceCtorEq];refine VCx.call (ts) rfl ?_;simp(disch:=omega) only[go_sem,↓reduceIte,reduceCtorEq];exact hK _ _ _ _ _ _ rfl (mp _ _) ⟨rfl,zg9 ..⟩
   | ok w a2=>
    have b2:=zeM hw b1.2.2;rw[hw,Rr.bind_ok]at hr;rw[hw]at ts;simp only[rvS,Rr.at,zfE _ _ _ _ _ _ hi]at ts;have e3:((at'+v:Nat):Int) - 1=((at'+v - 1:Nat):Int):=om;have hil:(is l).length=64:=by rw[zr,hll]
    (repeat refine PW.seq ?_);refine PW.rg rfl fun K hK=> ?_;simp(disch:=omega) only[go_sem,↓reduceIte,reduceCtorEq];refine VCx.call (ts) rfl ?_;simp(disch:=omega) only[go_sem,↓reduceIte,reduceCtorEq];refine VCx.call (mo _ _) rfl ?_;simp(disch:=omega) only[go_sem,↓reduceIte,reduceCtorEq,e1,e3,zha,hil,zb5,zre];refine hK _ _ ?_;clear hK K;have hgl:(is (l.set (at'+v - 1) w))[at'+v - 1]? =some (.int .i64 w):=by rw[zbJ _ _ (by rw[qA];omega)];simp[zg,hll,show at'+v - 1<64 from om]
    have hil2:(is (l.set (at'+v - 1) w)).length=64:=by rw[zr,qA,hll]
    by_cases hw0:w=0
    ·rw[if_pos hw0]at hr;injection hr with r1 r2;subst r1 r2;have d3:(w==0)=true:=by simp[hw0]
     refine PW.f (fun K k=>by simp(disch:=omega) only[go_sem,↓reduceIte,reduceCtorEq,e1,e3,zha,hil2,hgl,d3];exact k) ?_;refine PW.t ?_;(repeat refine PW.seq ?_);refine PW.raiseV (k:=.i64) (e:=3) 1 rfl ⟨_,_,_,rfl,rfl,rfl,rfl,rfl,rfl⟩ (qE rfl) kr fun K hK=> ?_;simp(disch:=omega) only[go_sem,↓reduceIte,reduceCtorEq];refine hK _ _ rfl ?_;clear hK K;exact⟨rfl,zg9 ..⟩
    ·rw[if_neg hw0]at hr;have d3:(w==0)=false:=by simp[hw0]
     have alw:=fun K=>al w K;cases hwn:win w 4095 with
     | false=>
      rw[hwn,if_pos rfl]at hr;rw[hwn]at alw;injection hr with r1 r2;subst r1 r2;(repeat refine PW.seq ?_);refine PW.rg rfl fun K hK=> ?_;simp(disch:=omega) only[go_sem,↓reduceIte,reduceCtorEq,e1,e3,zha,hil2,hgl,d3];refine VCx.call (alw _) rfl ?_;simp(disch:=omega) only[go_sem,↓reduceIte,reduceCtorEq];refine hK _ _ ?_;clear hK K;refine PW.t ?_;(repeat refine PW.seq ?_);refine PW.raiseV (k:=.i64) (e:=3) 1 rfl ⟨_,_,_,rfl,rfl,rfl,rfl,rfl,rfl⟩ (qE rfl) kr fun K hK=> ?_;simp(disch:=omega) only[go_sem,↓reduceIte,reduceCtorEq];refine hK _ _ rfl ?_;clear hK K;exact⟨rfl,zg9 ..⟩
     | true=>rw[hwn,if_neg (by decide)]at hr;rw[hwn]at alw;(repeat refine PW.seq ?_);refine PW.rg rfl fun K hK=> ?_;simp(disch:=omega) only[go_sem,↓reduceIte,reduceCtorEq,e1,e3,zha,hil2,hgl,d3];refine VCx.call (alw _) rfl ?_;simp(disch:=omega) only[go_sem,↓reduceIte,reduceCtorEq];refine hK _ _ ?_;clear hK K;refine PW.us ?_;exact PL.at [0,4,5,6] (ih (at'+v) a2 _ om om b2.2.2 (by rw[qA,hll]) hr) (by simp[kp,slot,qH];omega) rfl
set_option maxHeartbeats 1000000 in
theorem zui(i:Nat)(p:List UInt8)(n a fr a':Nat)(l':List Int)(H:za)(hA:H[i]? =some (rA p n a))(ha:a≤n)(hn:n≤8 * p.length)(hp:p.length≤100000000)(hfr:fr≤1)(hr:zfx p n fr a= .ok l' a'):
  CallOk Tryz.prog 302 [.ptr i 0 0,.int .i64 (fr:Int)] H (.agg (is l')) (H.set i (rA p n a')):=by
 have hi:=(qC.1 hA).1;have hself:=zaO hA;have al:=fun x K=>zts x K;have mo:=fun v K=>zn5 v K;have mp:=fun e K=>zlu e K;refine CallOk.go Tryz.func302 Tryz.ntmps302 Tryz.results302 ?_;refine PW.e ?_;refine PW.e ?_;refine PW.e ?_;refine PW.l ?_;suffices hl:∀(f at' a:Nat) (l:List Int),at'≤64→64 - at'<f→a≤n→l.length=64→tkB p n f at' a l= .ok l' a'→PL Tryz.prog _ _ [(0,.ptr i 0 0),(4,.ptr H.length 0 0),(5,.ptr (H.length+1) 0 0),(6,.int .i64 ((at':Int) - 1))] (rdH H i p n a l) _ by exact PL.at [0,4,5,6] (hl 65 fr a z64 om om ha (by simp[z64]) hr) rfl (by unfold rdH;rw[hself];rfl)
 clear hr hself hA ha;intro f;induction f with
 | zero=>intro at' a l h1 h2;omega
 | succ f ih=>
  intro at' a l h1 h2 ha hll hr;have tu:=zi7 i p n a (rdH H i p n a l) (znO H i p n a l hi) ha hn hp;simp only[tkB]at hr;refine PL.round ?_;refine PW.b ?_;cases hu:tkU p n a with
  | er e1 a1=>
   rw[hu,Rr.bind_er]at hr;cases hr
  | ok v a1=>
   have b1:=zeL hu ha;rw[hu,Rr.bind_ok]at hr;rw[hu]at tu;simp only[rvU,Rr.at,zfE _ _ _ _ _ _ hi]at tu;by_cases hv0:v=0
   ·rw[if_pos hv0]at hr;injection hr with r1 r2;subst r1 r2;have d1:((v:Int)==0)=true:=by simp[hv0]
    (repeat refine PW.seq ?_);refine PW.rg rfl fun K hK=> ?_;simp(disch:=omega) only[go_sem,↓reduceIte,reduceCtorEq];refine VCx.call (tu) rfl ?_;simp(disch:=omega) only[go_sem,↓reduceIte,reduceCtorEq];refine VCx.call (mo _ _) rfl ?_;simp(disch:=omega) only[go_sem,↓reduceIte,reduceCtorEq];refine hK _ _ ?_;clear hK K;refine PW.g d1 ?_;refine PW.t ?_;have hil:(is l).length=64:=by rw[zr,hll]
    have hz:(is z64).length=64:=by rw[zr];simp[z64]
    have htk:qQ 64 (is l)=is l:=qD om;have hcel:=zX l;have hdz:List.drop 64 (is z64)=[]:=List.drop_of_length_le om;have hg0:(H.set i (rA p n a1)++[⟨146,0,is l⟩,⟨146,0,is l⟩])[H.length]? =some ⟨146,0,is l⟩:=by have:=hp0 (H.set i (rA p n a1)) [⟨146,0,is l⟩] ⟨146,0,is l⟩;rwa[qA]at this
    refine PW.f (fun K k=>by simp(disch:=omega) only[go_sem,↓reduceIte,reduceCtorEq,zha,zzl,hil,hz,htk,hcel,hdz,zxj];exact k) ?_;refine PW.w (.agg (is l)) (nq2 hg0 (nq2 hil htk)) ?_;exact Fin.cut rfl sp (zdL _ _ _ _ _) (.id (zw (zaz _ _)))
   rw[if_neg hv0]at hr;have d1:((v:Int)==0)=false:=by rw[beq_eq_false_iff_ne];omega
   (repeat refine PW.seq ?_);refine PW.rg rfl fun K hK=> ?_;simp(disch:=omega) only[go_sem,↓reduceIte,reduceCtorEq];refine VCx.call (tu) rfl ?_;simp(disch:=omega) only[go_sem,↓reduceIte,reduceCtorEq];refine VCx.call (mo _ _) rfl ?_;simp(disch:=omega) only[go_sem,↓reduceIte,reduceCtorEq];refine hK _ _ ?_;clear hK K;refine PW.g d1 ?_;refine PW.us ?_;refine PW.e ?_;have e1:(at':Int) - 1+(v:Int)=((at'+v:Nat):Int) - 1:=om;by_cases h64:64<at'+v
   ·rw[if_pos h64]at hr;cases hr
   rw[if_neg h64]at hr;have d2:decide ((64:Int)≤((at'+v:Nat):Int) - 1)=false:=decide_eq_false om;refine PW.g (nq2 e1 d2) ?_;refine PW.us ?_;have ts:=zi8 i p n a1 (rdH H i p n a1 l) (znO H i p n a1 l hi) b1.2.2 hn hp;cases hw:tkS p n a1 with
   | er e2 a2=>
    rw[hw,Rr.bind_er]at hr;cases hr
   | ok w a2=>
    have b2:=zeM hw b1.2.2;rw[hw,Rr.bind_ok]at hr;rw[hw]at ts;simp only[rvS,Rr.at,zfE _ _ _ _ _ _ hi]at ts;have e3:((at'+v:Nat):Int) - 1=((at'+v - 1:Nat):Int):=om;have hil:(is l).length=64:=by rw[zr,hll]
    (repeat refine PW.seq ?_);refine PW.rg rfl fun K hK=> ?_;simp(disch:=omega) only[go_sem,↓reduceIte,reduceCtorEq];refine VCx.call (ts) rfl ?_;simp(disch:=omega) only[go_sem,↓reduceIte,reduceCtorEq];refine VCx.call (mo _ _) rfl ?_;simp(disch:=omega) only[go_sem,↓reduceIte,reduceCtorEq,e1,e3,zha,hil,zb5,zre];refine hK _ _ ?_;clear hK K;have hgl:(is (l.set (at'+v - 1) w))[at'+v - 1]? =some (.int .i64 w):=by rw[zbJ _ _ (by rw[qA];omega)];simp[zg,hll,show at'+v - 1<64 from om]
    have hil2:(is (l.set (at'+v - 1) w)).length=64:=by rw[zr,qA,hll]
    by_cases hw0:w=0
    ·rw[if_pos hw0]at hr;cases hr
    ·rw[if_neg hw0]at hr;have d3:(w==0)=false:=by simp[hw0]
     have alw:=fun K=>al w K;cases hwn:win w 4095 with
     | false=>
      rw[hwn,if_pos rfl]at hr;cases hr
     | true=>rw[hwn,if_neg (by decide)]at hr;rw[hwn]at alw;(repeat refine PW.seq ?_);refine PW.rg rfl fun K hK=> ?_;simp(disch:=omega) only[go_sem,↓reduceIte,reduceCtorEq,e1,e3,zha,hil2,hgl,d3];refine VCx.call (alw _) rfl ?_;simp(disch:=omega) only[go_sem,↓reduceIte,reduceCtorEq];refine hK _ _ ?_;clear hK K;refine PW.us ?_;exact PL.at [0,4,5,6] (ih (at'+v) a2 _ om om b2.2.2 (by rw[qA,hll]) hr) (by simp[kp,slot,qH];omega) rfl
end Go.Proofs.YtpjlfoficnpfoaaGreatDoor.Sc
