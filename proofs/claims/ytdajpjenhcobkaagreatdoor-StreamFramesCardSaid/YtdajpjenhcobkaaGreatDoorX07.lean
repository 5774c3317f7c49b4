/-
  Parts of the proof. No condition.
-/
import Derived.Test.YtdajpjenhcobkaaGreatDoorX05
import Derived.Test.YtdajpjenhcobkaaGreatDoorX06
import Derived.WalkSmall
import Derived.Laws.Build
open Array renaming replicate → qG, getD_eq_getD_getElem? → qS, getElem?_append_left → qU, toArray_toList → qY
open Bool renaming false_and → qA, true_and → qF, and_eq_true → qJ
open List renaming drop → qB, getElem?_eq_getElem → qD, not_mem_nil → qE, take → qH, mem_cons → qI, mem_append → qK, take_append_drop → qL, mem_cons_self → qN, length_append → qO, flatMap_cons → qP, mem_flatMap → qQ, drop_length → qR, drop_drop → qV, getD → qW, getElem?_eq_none → qX, mem_cons_of_mem → qZ
open Nat renaming strongRecOn → qT
open Go.Proofs.Tryz renaming prog → qM
set_option linter.all false
set_option maxRecDepth 100000
set_option maxHeartbeats 32000000
namespace Go.Proofs.YtdajpjenhcobkaaGreatDoor.Pm
open Go.RowKit
attribute [go_sem] zuk zsF VRi VCi zoo zua zeL zl8 zuU zmj zhI zbt zjX zd5 zmx okO inO zlm zqE zfU zaO atP zaw dis Call.operands List.filterMap_cons_some List.filterMap_nil List.filterMap_cons Array.toList_append
end Go.Proofs.YtdajpjenhcobkaaGreatDoor.Pm
namespace Go.Proofs.YtdajpjenhcobkaaGreatDoor.Sc
open Pm Ty Go.RowKit
theorem _root_.Go.Proofs.YtdajpjenhcobkaaGreatDoor.Pm.CallOk.fin{P:Program}{f:FuncId}{args:List PV}{v v':PV}{H H1 Hout:za}(h:CallOk P f args H v' H1)(hf:HSc H->H.length<=Hout.length/\CutH H1 Hout/\Fz Hout.length H1 v' v):CallOk P f args H v Hout:=
 ⟨h.1,λC us w hw hargs=>(h.2 C us w hw hargs).mono λe w' ⟨C',u,q1,q2,q3,q4,q5⟩=>by
  obtain⟨hlen,hcut,hfz⟩:=hf hw.hsc;obtain⟨g1,g2⟩:=q2.cutN hcut;exact⟨_,u,((q1.toN _).trans (g1.less hlen)).full hw.lenv,g2,q3,q4,hfz.sound q2 q5⟩⟩
theorem _root_.Go.Proofs.YtdajpjenhcobkaaGreatDoor.Pm.CallOk.base{P:Program}{f:FuncId}{args:List PV}{v v':PV}{H K:za}(h:CallOk P f args H v' (H++K))(hf:Fz H.length (H++K) v' v):CallOk P f args H v H:=h.fin λhs=>⟨Nat.le_refl _,CutH.base hs,hf⟩
theorem apn(H K:za)(n:Nat):(H++K)[H.length+n]? =K[n]? :=by rw[List.getElem?_append_right om,show H.length+n - H.length=n from om]
theorem aps(H K:za)(n:Nat)(X:Blk):(H++K).set (H.length+n) X=H++K.set n X:=by rw[List.set_append_right _ _ om,show H.length+n - H.length=n from om]
theorem zaH{α:Type}(enc:α->List PV)(N:Nat):∀(l:List α),(∀ x∈l,(enc x).length=N)->(l.flatMap enc).length=l.length * N
 | [],_=>by simp
 | a::r,h=>by rw[qP,qO,zaH enc N r (λx hx=>h x (qZ _ hx)),h a (qN ..),List.length_cons,Nat.add_mul,Nat.one_mul,Nat.add_comm]
theorem zdt{α:Type}(enc:α->List PV)(N:Nat):∀(l:List α) (k:Nat) (hk:k<l.length),(∀ x∈l,(enc x).length=N)->qH N (qB (k * N) (l.flatMap enc))=enc l[k]
 | [],k,hk,_=>by simp at hk
 | a::r,0,_,h=>by
  rw[Nat.zero_mul,List.drop_zero,qP];exact List.take_left' (h a (qN ..))
 | a::r,k+1,hk,h=>by
  have e:(k+1) * N=(enc a).length+k * N:=by rw[h a (qN ..),Nat.add_mul,Nat.one_mul,Nat.add_comm]
  rw[qP,e,<-qV,List.drop_left];exact zdt enc N r k (by simpa using hk) (λx hx=>h x (qZ _ hx))
theorem zh0{H K:za}(hK:∀ b∈K,∀ x∈b.cells,Scoped (H.length+K.length) x)(h:HSc H):HSc (H++K):=λid k hk x hx=>by
 rw[qO];rw[List.getElem?_append]at hk;split at hk
 .exact(h id k hk x hx).mono om
 .exact hK k (List.mem_of_getElem? hk) x hx
theorem znv(p:Pi)(n:Nat):∀ x∈pic p,Scoped n x:=λx hx=>by
 simp only[pic,qI,qE,or_false]at hx;rcases hx with rfl|rfl|rfl|rfl|rfl|rfl
 .exact .int _ _
 .exact .int _ _
 .exact .int _ _
 .exact .bool _
 .exact .bool _
 .exact .bool _
theorem zfp{α:Type}(enc:α->List PV)(N:Nat)(l:List α)(k r:Nat)(hk:k<l.length)(hl:∀ x∈l,(enc x).length=N)(hr:r<N):(l.flatMap enc)[k * N+r]? =(enc l[k])[r]? :=by rw[<-zdt enc N l k hk hl,List.getElem?_take,if_pos hr,List.getElem?_drop]
def uq1(u:Int×List UInt8):List PV:=[.int .i64 u.1,.slice (bs u.2) u.2.length false]
def uq(us:List (Int×List UInt8)):List PV:=us.flatMap uq1
theorem zlU(us:List (Int×List UInt8)):(uq us).length=us.length * 2:=zaH uq1 2 us λ_ _=>rfl
theorem zut(us:List (Int×List UInt8))(k:Nat)(hk:k<us.length):qH 2 (qB (k * 2) (uq us))=uq1 us[k]:=zdt uq1 2 us k hk λ_ _=>rfl
theorem uq_0(us:List (Int×List UInt8))(k:Nat)(hk:k<us.length):(uq us)[k * 2]? =some (.int .i64 us[k].1):=zfp uq1 2 us k 0 hk (λ_ _=>rfl) om
theorem uq_1(us:List (Int×List UInt8))(k:Nat)(hk:k<us.length):(uq us)[k * 2+1]? =some (.slice (bs us[k].2) us[k].2.length false):=zfp uq1 2 us k 1 hk (λ_ _=>rfl) om
theorem zus(n:Nat)(us:List (Int×List UInt8)):∀ x∈uq us,Scoped n x:=λx hx=>by
 obtain⟨u,_,hx⟩:=qQ.1 hx;simp only[uq1,qI,qE,or_false]at hx;rcases hx with rfl|rfl
 .exact .int _ _
 .exact zr (zh _ _)
def zlT(u:List UInt8):List PV:=[.slice (bs u) u.length false]
def usr(U:List (List UInt8)):PV:=.slice (U.flatMap zlT) U.length false
theorem zve(n:Nat)(U:List (List UInt8)):Scoped n (usr U):=zr λx hx=>by obtain⟨u,_,hx⟩:=qQ.1 hx;simp only[zlT,qI,qE,or_false]at hx;rw[hx];exact zr (zh _ _)
def cdc(p:Pi)(U:List (List UInt8))(us:List (Int×List UInt8)):List PV:=pic p++[usr U,.slice (uq us) us.length false]
theorem zeu(p:Pi)(U:List (List UInt8))(us:List (Int×List UInt8)):(cdc p U us).length=8:=rfl
theorem zd7(p:Pi)(U:List (List UInt8))(us:List (Int×List UInt8)):(cdc p U us).all PV.cell=true:=rfl
theorem zsj(p:Pi)(U:List (List UInt8))(us:List (Int×List UInt8)):qH 6 (cdc p U us)=pic p:=rfl
theorem zsk(p:Pi)(U:List (List UInt8))(us:List (Int×List UInt8)):(cdc p U us)[7]? =some (.slice (uq us) us.length false):=rfl
theorem zsi(p:Pi)(U:List (List UInt8))(us:List (Int×List UInt8)):qH 8 (cdc p U us)=cdc p U us:=rfl
theorem zid(n:Nat)(p:Pi)(U:List (List UInt8))(us:List (Int×List UInt8)):∀ x∈cdc p U us,Scoped n x:=λx hx=>by
 rcases qK.1 hx with hx|hx
 .exact znv _ _ x hx
 .simp only[qI,qE,or_false]at hx;rcases hx with rfl|rfl
  .exact zve _ _
  .exact zr (zus _ _)
structure It where
 k:Int
 s:Sq
 gc:Bool
 gb:Bool
 gt:Int
 p:Pi
 U:List (List UInt8)
 us:List (Int×List UInt8)
 pad:Int
def itc(x:It):List PV:=.int .i64 x.k::(sqc x.s++(.bool x.gc:: .bool x.gb:: .int .i64 x.gt::(cdc x.p x.U x.us++[.int .i64 x.pad])))
structure ItOk(x:It):Prop where
 s:SqOk x.s
 k:zex x.k
 gt:zex x.gt
 pad:zex x.pad
 ut:∀ u∈x.us,zex u.1
theorem zuC(s:Sq)(hs:SqOk s):(sqc s).length=135:=by simp[sqc,zd,hs.ia,hs.ie]
theorem zgU(x:It)(h:SqOk x.s):(itc x).length=148:=by simp only[itc,List.length_cons,qO,zuC x.s h,zeu,List.length_nil]
theorem zrA(x:It):(itc x).all PV.cell=true:=by simp[itc,sqc,bs,cdc,pic,usr,PV.cell]
theorem zuR(x:It)(h:SqOk x.s)(n:Nat):qB (136+n) (itc x)=qB n (.bool x.gc:: .bool x.gb:: .int .i64 x.gt::(cdc x.p x.U x.us++[.int .i64 x.pad])):=by
 have e:qB 136 (itc x)= .bool x.gc:: .bool x.gb:: .int .i64 x.gt::(cdc x.p x.U x.us++[.int .i64 x.pad]):=by show qB 135 (sqc x.s++_)=_;exact List.drop_left' (zuC x.s h)
 rw[<-qV,e]
theorem zxE(x:It)(h:SqOk x.s):qH 8 (qB 139 (itc x))=cdc x.p x.U x.us:=by have:=zuR x h 3;rw[this];rfl
theorem zwg(x:It)(h:SqOk x.s)(n:Nat):(itc x)[136+n]? =(.bool x.gc:: .bool x.gb:: .int .i64 x.gt::(cdc x.p x.U x.us++[.int .i64 x.pad]))[n]? :=by have:=congrArg (·[0]?) (zuR x h n);simpa using this
theorem ztI(x:It)(h:SqOk x.s):(itc x)[147]? =some (.int .i64 x.pad):=zwg x h 11
theorem zwf(n:Nat)(x:It):∀ y∈itc x,Scoped n y:=λy hy=>by
 simp only[itc,qI,qK,qE,or_false]at hy;rcases hy with rfl|hy|rfl|rfl|rfl|hy|rfl
 .exact .int _ _
 .exact zbE _ _ y hy
 .exact .bool _
 .exact .bool _
 .exact .int _ _
 .exact zid _ _ _ _ y hy
 .exact .int _ _
end Go.Proofs.YtdajpjenhcobkaaGreatDoor.Sc
namespace Go.Proofs.YtdajpjenhcobkaaGreatDoor.Lg
open Go.ChangeShapes Go.WideShapes Go.ChangeAt Go.RowKit Pm Sc Lp
theorem zos{ps:List PV}(h:Shp qM 37 ps):∃(p:Pi) (U:List (List UInt8)) (us:List (Int×List UInt8)),ps=cdc p U us/\U.length<=maxLen/\us.length<=maxLen/\∀ u∈us,zex u.1:=by
 obtain⟨pss,rfl,hf⟩:=h.fields Tryz.underlying37
 match pss,hf with
 | [p,u,l],⟨hp,hu,hl,_⟩=>
  obtain⟨p,rfl,_⟩:=zs6 hp;obtain⟨U,rfl,hU,_⟩:=hu.of_list (enc:=zlT) (good:=λ_=>True) Tryz.underlying34 (λq hq=>by
   obtain⟨x,rfl⟩:=shp_bytes hq;exact⟨x,rfl,trivial⟩)
  obtain⟨us,rfl,hm,hg⟩:=hl.of_list (enc:=uq1) (good:=λu=>zex u.1) Tryz.underlying35 (λq hq=>by
   obtain⟨t,x,rfl,ht⟩:=zp7 hq;exact⟨(t,x),rfl,ht⟩)
  exact⟨p,U,us,rfl,hU,hm,hg⟩
end Go.Proofs.YtdajpjenhcobkaaGreatDoor.Lg
namespace Go.Proofs.YtdajpjenhcobkaaGreatDoor.Pm
open Go.RowKit
variable {P:Program} {C:Ctx} {H K:za} {w:World} {F:Fr} {a:Act} {N:Nat}
def zjK(rs:List (Nat×Nat))(o:Oper):Bool:=match zl8 rs o with|some _=>false|none=> !zJ o.op&& !eff o.op
def zg2(ds:List (Option Nat))(rs:List (Nat×Nat))(x o:Oper):Bool:=clear ds x o&&clear ds o x&&zjK rs x&&zjK rs o
def ExT(P:Program)(all:List Oper)(ids:List Nat)(rs:List (Nat×Nat))(o:Oper)(f:Nat->PV)(H:za)(v:PV)(H':za):Prop:=(zby all f o=some false/\v= .tup []/\H'=H)\/(zby all f o=some true/\StI P ids rs o f H v H')
theorem ExT.congr{all:List Oper}{ids:List Nat}{rs:List (Nat×Nat)}{o:Oper}{f g:Nat->PV}{v:PV}{H':za}(h:∀ t∈ziG (all.map (·.dst)) o,f t=g t)(he:ExT P all ids rs o f H v H'):ExT P all ids rs o g H v H':=by have e1:zby all f o=zby all g o:=zdd λt ht=>h t (qK.2 (.inr ht));have e2:∀ x∈o.op.operands.toList,ev f x=ev g x:=λx hx=>zfs λt ht=>h t (qK.2 (.inl (zff (ht▸hx))));unfold ExT StI at he |-;simp only[<-e1,<-zbP e2,<-zhH e2];exact he
theorem ExT.same{all:List Oper}{ids:List Nat}{rs:List (Nat×Nat)}{o:Oper}{f:Nat->PV}{v:PV}{H':za}(hn:zjK rs o=true)(he:ExT P all ids rs o f H v H'):H'=H:=by
 rcases he with⟨_,_,e⟩|⟨_,h⟩
 .exact e
 unfold zjK at hn;cases hr:zl8 rs o with
 | some p=>rw[hr]at hn;cases hn
 | none=>rw[hr]at hn;simp only[qJ,Bool.not_eq_true']at hn;unfold StI at h;rw[zdy hn.1]at h;dsimp only at h;unfold zeL at h;rw[hr]at h;exact zc2 hn.2 h
theorem zxc{all:List Oper}{ids:List Nat}{rs:List (Nat×Nat)}:zoh (ExT P all ids rs) (zg2 (all.map (·.dst)) rs):=by intro x o f H vx Hx v H1 hc hx ho;unfold zg2 at hc;simp only[qJ]at hc;obtain⟨⟨⟨c1,c2⟩,c3⟩,c4⟩:=hc;obtain rfl:=hx.same c3;obtain rfl:=ho.same c4;exact⟨H1,ho.congr λt ht=>zcj (zbo c1 t ht),hx.congr λt ht=>(zcj (zbo c2 t ht)).symm,zhg (f:=f) (u:=vx) (v:=v) (zgb c1)⟩
theorem zxf{ops:Array Oper}{ids:List Nat}{rs:List (Nat×Nat)}:zsG P N ops (ExT P ops.toList ids rs):=by
 intro o f H v H' C a w hd hw hf he;rcases he with⟨h1,h2,h3⟩|⟨h1,h2⟩
 .have hwant:=zS hf h1;rw[qY]at hwant;exact .inl ⟨hwant,h2,h3⟩
 .have hwant:=zS hf h1;rw[qY]at hwant;exact .inr ⟨hwant,λnext Q hn=>zfL hd hw hf h2 _ _ hn⟩
theorem zlL{all:List Oper}{ids:List Nat}{rs:List (Nat×Nat)}{K:Fr->za->Prop}:∀(l:List Oper) (F:Fr) (H:za),VOi P false ids [] rs [] (all.map (·.dst)) l (some (F,H)) K->RunG (ExT P all ids rs) l (slot F) H (λf H'=>∃ F',f=slot F'/\K F' H')
 | [],F,H,h=>⟨F,rfl,h⟩
 | o::r,F,H,h=>by
  simp only[VOi]at h;have go:∀ v H',ExT P all ids rs o (slot F) H v H'->VOi P false ids [] rs [] (all.map (·.dst)) r (some (put F o.dst v,H')) K->RunG (ExT P all ids rs) (o::r) (slot F) H (λf H'=>∃ F',f=slot F'/\K F' H'):=λv H' he hr=>by refine⟨v,H',he,?_⟩;rw[<-zae];exact zlL r _ _ hr
  cases hc:zJ o.op with
  | false=>
   simp only[hc]at h;unfold zoo at h;split at h
   .rw[zcz]at h;exact h.elim
   .rename_i b hb;cases b with
    | false=>exact go _ _ (.inl ⟨zw all F o hb,rfl,rfl⟩) h
    | true=>
     simp only[cond_true,Bool.not_false,Bool.true_or]at h;split at h
     .rename_i v H' hp;exact go v H' (.inr ⟨zw all F o hb,by unfold StI;rw[zdy hc];exact hp⟩) h
     .rw[zcz]at h;exact h.elim
  | true=>
   simp only[hc]at h;unfold VCi at h;split at h
   .exact h.elim
   .rename_i b hb;cases b with
    | false=>exact go _ _ (.inl ⟨zw all F o hb,rfl,rfl⟩) (h.2 rfl)
    | true=>
     have h:=h.1 rfl;unfold VCj at h;split at h
     .rename_i fn args hp;obtain⟨v,H',h1,h2⟩:=h;exact go v H' (.inr ⟨zw all F o hb,by unfold StI;rw[hp];exact h1⟩) h2
     .exact h.elim
theorem PW.drawt{E:Env}{Q:Exit->Fr->za->Prop}{id:Nat}{ops:Array Oper}(ids:List Nat)(rs:List (Nat×Nat))(hm:P.follows .mixedOrders=true)(hd:zj6 (zg2 (ops.toList.map (·.dst)) rs) E.N ops.toList=true)
  (h:∀ K:Fr->za->Prop,(∀ F' H',Q .normal F' H'->K F' H')->VOi P false ids [] rs [] (ops.toList.map (·.dst)) ops.toList (some (F,H)) K):PW P E (.region id ops true) F H Q:=λhs C a w hdf hw hf=>by
 refine wp_region_any hm ?_;have hr:=zlL (P:=P) _ _ _ (h (λF' H'=>Q .normal F' H') λ_ _ h=>h);have hall:∀ i,i<ops.toList.length->zh7 (zg2 (ops.toList.map (·.dst)) rs) (zgq ops.toList) E.N ops.toList i=true:=by intro i hi;unfold zj6 at hd;exact List.all_eq_true.1 hd i (List.mem_range.2 hi)
 refine zn9 (P:=P) hall zxc zxf ops.size (qG ops.size false) (slot F) H C a w.drew sp ?_ (by rw[zb3];simp) (by rw[zb3,zg8];exact hr) hdf hw.drew hf ?_
 .intro i o ho hl j hj;have hi:i<ops.size:=(Array.getElem?_eq_some_iff.1 ho).1;simp[Array.getD,hi]at hl
 .rintro C' f' H' a' w' p1 p2 p3 p4 p5 ⟨F',rfl,p6⟩;exact⟨C',F',H',p1.toN _,p2,p3,((Below.refl C.B w).drew).trans p4,p5,p6⟩
theorem VCj.now{ids:List Nat}{fp:Fp}{rs:List (Nat×Nat)}{o:Oper}{K:Fr->za->Prop}{g:FuncId}{args:List PV}{v:PV}{H':za}(h:CallOk P g args H v H')(hc:zn o.op (slot F)=some (g,args))(hk:K (put F o.dst v) H'):VCj P false ids fp rs o F H K:=by unfold VCj;simp only[hc];exact⟨v,H',h,hk⟩
end Go.Proofs.YtdajpjenhcobkaaGreatDoor.Pm
namespace Go.Proofs.YtdajpjenhcobkaaGreatDoor.Pm
open Go.RowKit
variable {P:Program} {C:Ctx} {H:za} {w:World} {F:Fr} {a:Act} {N:Nat}
def CallPan(P:Program)(f:FuncId)(args:List PV)(H:za)(ch:List PanicEntry)(H':za):Prop:=
 zaR P f=true/\∀(C:Ctx) (us:List Value) (w:World),WRel C H w->VRels C args us->
  Calls P f us.toArray w λe w'=>∃ C',CLe C C'/\WRel C' H' w'/\Below C.B w w'/\e= .panicked ch
theorem zcU{all:List Oper}{K:Fr->za->Prop}{D:List Deferred}{rest:List Oper}:∀(l:List Oper) (F:Fr) (H:za),l.all (zU N)=true->zco P all l K F H->∀(C:Ctx) (a:Act) (w:World),a.defers=D->WRel C H w->FRel C N (slot F) a->
  ∀ Q:Exit->Act->World->Prop,(∀ C' F' H' a' w',CLe C C'->a'.defers=D->WRel C' H' w'->Below C.B w w'->FRel C' N (slot F') a'->K F' H'->wpList P all.toArray Q rest a' w')->wpList P all.toArray Q (l++rest) a w
 | [],F,H,_,h,C,a,w,hd,hw,hf,Q,hQ=>hQ C F H a w (.refl _) hd hw (.refl _ _) hf h
 | o::r,F,H,hall,h,C,a,w,hd,hw,hf,Q,hQ=>by
  simp only[List.all_cons,qJ]at hall;simp only[zco]at h;rw[List.cons_append];split at h
  .rename_i b hb;have hwant:=zS hf hb;unfold wpList;cases b with
   | true=>
    rw[if_pos hwant];left;have h1:=h.1 rfl;have step:∀ R,zcM P o (slot F) H R->(∀ v H',R v H'->zco P all r K (put F o.dst v) H')->o.wp P a w (wpList P all.toArray Q (r++rest)) Q:=λR he hr=>by refine zb5 hall.1 hw hf he _ _ λC' u w' v H' q0 q1 q2 q3 q4=> ?_;rw[<-zae]at q4;refine zcU (D:=D) (rest:=rest) r _ _ hall.2 (hr v H' q0) C' _ w' (by cases ho:o.dst<;>simp[Act.put,hd]) q2 q4 Q ?_;intro C'' F'' H'' a'' w'' p1 p2 p3 p4 p5 p6;exact hQ C'' F'' H'' a'' w'' (q1.trans p1) p2 p3 (q3.trans (by rw[<-q1.B];exact p4)) p5 p6
    split at h1
    .rename_i g args hc;obtain⟨R,hcall,hr⟩:=h1;exact step R (by unfold zcM;rw[hc];exact hcall) hr
    .rename_i hc;split at h1
     .rename_i v H' hp;exact step (λv' H''=>v'=v/\H''=H') (by unfold zcM;rw[hc];exact⟨v,H',hp,rfl,rfl⟩) (λv' H'' e=>by rw[e.1,e.2];exact h1)
     .exact h1.elim
   | false=>rw[if_neg (by rw[hwant];simp)];have h2:=h.2 rfl;have q4:=hf.put o.dst (zaQ hall.1) (VRel.undefV (C:=C));rw[<-zae]at q4;exact zcU (D:=D) (rest:=rest) r _ _ hall.2 h2 C _ w (by cases ho:o.dst<;>simp[Act.put,hd]) hw q4 Q hQ
  .exact h.elim
theorem zeF{o:Oper}{f:Nat->PV}{g:FuncId}{args:List PV}{ch:List PanicEntry}{H':za}(hw:WRel C H w)(hf:FRel C N f a)(hc:zn o.op f=some (g,args))(h:CallPan P g args H ch H')
  (next:Act->World->Prop) (Q:Exit->Act->World->Prop) (hn:∀ C' w',CLe C C'->WRel C' H' w'->Below C.B w w'->FRel C' N f a->Q (.panic ch) a w'):o.wp P a w next Q:=by
 unfold zn at hc;split at hc
 .rename_i x xs ts ho;split at hc
  .rename_i f' first captured hfv
   simp only[Option.some.injEq,Prod.mk.injEq]at hc;obtain⟨rfl,rfl⟩:=hc;have hv:=zy hf x;rw[hfv]at hv;obtain⟨us,ws,hl,hl',hR,hR',he⟩:∃ us ws,us.length=first.length/\ws.length=captured.length/\Rel C first us/\Rel C captured ws/\a.eval x= .func (.func f') us.toArray ws.toArray:=by
    generalize a.eval x=q at hv;cases hv with
    | func hl hl' hR hR'=>exact⟨_,_,hl,hl',hR,hR',rfl⟩
   obtain⟨hal,har⟩:=zfq hf xs.toList;have hrun:(execOp a.eval o).run P w= .ok (.enter f' (us++xs.toList.map a.eval++ws).toArray) w:=by
    have e1:us.toArray++xs.map a.eval++ws.toArray=(us++xs.toList.map a.eval++ws).toArray:=by apply Array.ext';simp
    simp only[execOp,ho,resolve,he,Deferred.ofValue,invoke,Sem.run_bind,Sem.run_pure,Result.andThen_ok,zdj h.1,e1]
   unfold Oper.wp;rw[hrun,Oper.upon_enter];refine(h.2 C _ w hw ⟨by simp[hl,hl'],Rel.append (by simp[hl]) (Rel.append hl hR har) hR'⟩).mono ?_;rintro e w' ⟨C',q1,q2,q3,rfl⟩;exact hn C' w' q1 q2 q3 (hf.mono q1)
  .cases hc
 .cases hc
section rules
variable {E:Env} {Q:Exit->Fr->za->Prop}
theorem PW.region_pan{id:Nat}{ops:Array Oper}(n:Nat)(hd:(ops.toList.take n).all (zU E.N)=true)
  (h:zco P ops.toList (ops.toList.take n) (λF' H'=>∃ o r g args ch H'',ops.toList.drop n=o::r/\zby ops.toList (slot F') o=some true/\zn o.op (slot F')=some (g,args)/\CallPan P g args H' ch H''/\Q (.panic ch) F' H'') F H):
  PW P E (.region id ops false) F H Q:=λhs C a w hdf hw hf=>by
 refine wp_region_list ?_;have:=zcU (P:=P) (all:=ops.toList) (rest:=ops.toList.drop n) (ops.toList.take n) F H hd h C a w hdf hw hf (Post E C w Q) (λC' F' H' a' w' p1 p2 p3 p4 p5 p6=>by
  obtain⟨o,r,g,args,ch,H'',e1,e2,e3,e4,e5⟩:=p6;rw[e1];unfold wpList;rw[if_pos (zS p5 e2)];left;exact zeF p3 p5 e3 e4 _ _ λC'' w'' r1 r2 r3 r4=>⟨C'',F',H'',(p1.trans r1).toN _,p2,r2,p4.trans (by rw[<-p1.B];exact r3),r4,e5⟩)
 rw[qL]at this;simpa using this
end rules
def zxZ(H:za)(Hout:za)(H':za):Prop:=H'=Hout\/(∃ K,H'=H++K/\Hout=H)\/(HSc H->H.length<=Hout.length/\CutH H' Hout)
def zxy(ch:List PanicEntry)(H Hout:za):Exit->Fr->za->Prop
 | .panic ch',_,H'=>ch'=ch/\zxZ H Hout H'
 | _,_,_=>False
theorem CallPan.intro{f:FuncId}{fn:Func}{c:Code}{args:List PV}{ch:List PanicEntry}{Hout:za}(hf:P.funcs[f]? =some fn)(hb:fn.body=some c)(hcall:zaR P f=true)(hn:args.length<=fn.ntmps)
  (h:PW P ⟨fn.ntmps,H⟩ c (zcy args 0) H (zxy ch H Hout)):CallPan P f args H ch Hout:=by
 refine⟨hcall,λC us w hw hargs=>calls_of_wp hf hb ?_⟩;have hfr:FRel C fn.ntmps (slot (zcy args 0)) { tmps:=us.toArray++qG (fn.ntmps - us.toArray.size) Go.undef,defers:=[] }:=by
  refine⟨by simp[hargs.1];omega,λt=> ?_⟩;rw[zem];simp only[Nat.zero_le,if_true,Nat.sub_zero];by_cases ht:t<args.length
  .have htu:t<us.length:=by rw[hargs.1];exact ht
   have e1:args.getD t .undef=args[t]:=by simp[qW,ht]
   have e2:(us.toArray++qG (fn.ntmps - us.toArray.size) Go.undef).getD t Go.undef=us[t]:=by rw[qS,qU (by simpa using htu)];simp[htu]
   rw[e1,e2];exact hargs.2 t _ _ (qD ht) (qD htu)
  .have e1:args.getD t .undef= .undef:=by simp[qW,qX (by omega:args.length<=t)]
   rw[e1];exact .undef _
 refine wp_mono (h hw.hsc C _ w rfl hw hfr) ?_;rintro e a' w' ⟨C',F',H',q1,q2,q3,q4,q5,q6⟩;have q1':=q1.full hw.lenv;cases e with
 | panic ch'=>
  obtain⟨rfl,hp⟩:=q6;refine⟨q2,?_⟩;rcases hp with rfl|⟨K,rfl,rfl⟩|hp
  .exact⟨C',q1',q3,q4,rfl⟩
  .obtain⟨g1,g2⟩:=WRel.give hw q1' q3;exact⟨_,g1,g2,q4,rfl⟩
  .obtain⟨hlen,hcut⟩:=hp hw.hsc;obtain⟨g1,g2⟩:=q3.cutN hcut;exact⟨_,(q1.trans (g1.less hlen)).full hw.lenv,g2,q4,rfl⟩
 | _=>exact q6.elim
theorem CallPan.body{f:FuncId}{fn:Func}{c:Code}{F0:Fr}{args:List PV}{ch:List PanicEntry}{Hout:za}(hf:P.funcs[f]? =some fn)(hb:fn.body=some c)(hN:fn.ntmps=N)(hF:zcy args 0=F0)
  (hcall:zaR P f=true) (hn:Nat.ble args.length N=true) (h:PW P ⟨N,H⟩ c F0 H (zxy ch H Hout)):CallPan P f args H ch Hout:=by
 subst hN hF;exact CallPan.intro hf hb hcall (Nat.le_of_ble_eq_true hn) h
end Go.Proofs.YtdajpjenhcobkaaGreatDoor.Pm
namespace Go.Proofs.YtdajpjenhcobkaaGreatDoor.Pm
open Go.RowKit
variable {P:Program} {C:Ctx} {H:za} {w:World} {F:Fr} {a:Act} {N:Nat}
def pnc(ty:TypeId)(k:IntKind)(e:Int):List PanicEntry:=[{ v:=.iface ty (.agg #[.int k e]),recovered:=false }]
theorem zsy{C:Ctx}{k:IntKind}{e:Int}{u:Value}(h:VRel C (.agg [.int k e]) u):u= .agg #[.int k e]:=by
 cases h with
 | agg hl hc hR=>
  rename_i us
  match us,hl with
  | [y],_=>have:=hR 0 _ _ rfl rfl;cases this;rfl
section rules
variable {E:Env} {Q:Exit->Fr->za->Prop}
theorem PW.raise{id:Nat}{ops:Array Oper}(n:Nat){s d:Nat}{ty:TypeId}{k:IntKind}{e:Int}(hd:(ops.toList.take n).all (zU E.N)=true)(hdN:d<E.N)(hty:P.concrete ty=true)
  (h:zco P ops.toList (ops.toList.take n) (λF' H'=>∃ o1 o2 r,ops.toList.drop n=o1::o2::r/\o1.guard=none/\o2.guard=none/\o1.op= .makeInterface ty (.tmp s)/\o1.dst=some d/\o2.op= .panic (.tmp d)/\slot F' s= .agg [.int k e]/\Q (.panic (pnc ty k e)) (put F' (some d) .undef) H') F H):
  PW P E (.region id ops false) F H Q:=λhs C a w hdf hw hf=>by
 refine wp_region_list ?_;have:=zcU (P:=P) (all:=ops.toList) (rest:=ops.toList.drop n) (ops.toList.take n) F H hd h C a w hdf hw hf (Post E C w Q) (λC' F' H' a' w' p1 p2 p3 p4 p5 p6=>by
  obtain⟨o1,o2,r,e1,g1,g2,x1,d1,x2,hsl,hq⟩:=p6;rw[e1];have hv:=p5.2 s;rw[hsl]at hv;have hu:=zsy hv;have hsz:=p5.1;have w1:∀ a0:Act,Region.wanted o1 (yielded ops.toList.toArray a0.tmps)=true:=λa0=>by simp[Region.wanted,g1]
  have w2:∀ a0:Act,Region.wanted o2 (yielded ops.toList.toArray a0.tmps)=true:=λa0=>by simp[Region.wanted,g2]
  have r1:(execOp a'.eval o1).run P w'= .ok (.value (.iface ty (.agg #[.int k e]))) w':=by simp only[execOp,x1];have:a'.eval (.tmp s)= .agg #[.int k e]:=hu;rw[this];simp only[Sem.run_bind,run_makeInterface _ _ _ hty,Result.andThen_ok,Sem.run_pure]
  unfold wpList;rw[if_pos (w1 _)];left;unfold Oper.wp;rw[r1,Oper.upon_value];unfold wpList;rw[if_pos (w2 _)];left;have hlt:d<a'.tmps.size:=om;have r2:(execOp (a'.put o1.dst (.iface ty (.agg #[.int k e]))).eval o2).run P w'= .halt (.panic (.iface ty (.agg #[.int k e]))) w':=by
   simp only[execOp,x2];have:(a'.put o1.dst (.iface ty (.agg #[.int k e]))).eval (.tmp d)= .iface ty (.agg #[.int k e]):=by rw[d1];simp[Act.put,Act.eval,hlt]
   rw[this];simp only[Sem.run_bind,run_panic_iface,Result.andThen_halt]
  unfold Oper.wp;rw[r2,Oper.upon_panic];have q4:=p5.put (some d) (λt ht=>by injection ht with ht;omega) (VRel.undef (C:=C') (.iface ty (.agg #[.int k e])));rw[<-zae]at q4;exact⟨C',_,H',p1.toN _,by rw[d1];simpa[Act.put]using p2,p3,p4,by rw[d1];exact q4,hq⟩)
 rw[qL]at this;simpa using this
theorem PW.raiseV{id:Nat}{ops:Array Oper}(n:Nat){s d:Nat}{ty:TypeId}{k:IntKind}{e:Int}(hd:(ops.toList.take n).all (zU E.N)=true)
  (hs:∃ o1 o2 r,ops.toList.drop n=o1::o2::r/\o1.guard=none/\o2.guard=none/\o1.op= .makeInterface ty (.tmp s)/\o1.dst=some d/\o2.op= .panic (.tmp d)) (hdN:d<E.N) (hty:P.concrete ty=true)
  (h:∀ K:Fr->za->Prop,(∀ F' H',slot F' s= .agg [.int k e]->Q (.panic (pnc ty k e)) (put F' (some d) .undef) H'->K F' H')->VO P (ops.toList.map (·.dst)) (ops.toList.take n) (some (F,H)) K):PW P E (.region id ops false) F H Q:=by
 obtain⟨o1,o2,r,e1,e2,e3,e4,e5,e6⟩:=hs;exact .raise n hd hdN hty (zaS _ _ _ (h _ λF' H' h1 h2=>⟨o1,o2,r,e1,e2,e3,e4,e5,e6,h1,h2⟩))
theorem PW.panV{id:Nat}{ops:Array Oper}(n:Nat){o:Oper}(hd:(ops.toList.take n).all (zU E.N)=true)(hs:∃ o' r,ops.toList.drop n=o'::r/\(o'=o/\o'.guard=none))
  (h:∀ K:Fr->za->Prop,(∀ F' H' g args ch H'',zn o.op (slot F')=some (g,args)->CallPan P g args H' ch H''->Q (.panic ch) F' H''->K F' H')->VO P (ops.toList.map (·.dst)) (ops.toList.take n) (some (F,H)) K):PW P E (.region id ops false) F H Q:=by
 obtain⟨o',r,e1,rfl,e2⟩:=hs;exact .region_pan n hd (zaS _ _ _ (h _ λF' H' g args ch H'' h1 h2 h3=>⟨o',r,g,args,ch,H'',e1,by unfold zby;rw[e2],h1,h2,h3⟩))
end rules
end Go.Proofs.YtdajpjenhcobkaaGreatDoor.Pm
namespace Go.Proofs.YtdajpjenhcobkaaGreatDoor.Pm
open Go.RowKit
variable {P:Program} {C:Ctx} {H:za} {w:World} {F:Fr} {a:Act} {N:Nat}
theorem zlQ{all:Array Oper}{o:Oper}{rest:List Oper}{v:PV}{H':za}{Q:Exit->Act->World->Prop}(hw:WRel C H w)(hf:FRel C N (slot F) a)(hd:zU N o=true)(hg:o.guard=none)(hp:zn o.op (slot F)=none)(he:pop P o.op (slot F) H=some (v,H'))
  (hn:∀ C' u w',CLe C C'->WRel C' H' w'->Below C.B w w'->FRel C' N (slot (put F o.dst v)) (a.put o.dst u)->wpList P all Q rest (a.put o.dst u) w'):wpList P all Q (o::rest) a w:=by
 unfold wpList;rw[if_pos (by simp[Region.wanted,hg])];left;refine zb5 hd hw hf (R:=λv' H''=>v'=v/\H''=H') (by unfold zcM;rw[hp];exact⟨v,H',he,rfl,rfl⟩) _ _ λC' u w' v' H'' q0 q1 q2 q3 q4=> ?_;obtain⟨rfl,rfl⟩:=q0;rw[<-zae]at q4;exact hn C' u w' q1 q2 q3 q4
theorem zi5{all:Array Oper}{o:Oper}{rest:List Oper}{u:Value}{Q:Exit->Act->World->Prop}(hg:o.guard=none)(he:(execOp a.eval o).run P w= .ok (.value u) w)(hn:wpList P all Q rest (a.put o.dst u) w):wpList P all Q (o::rest) a w:=by unfold wpList;rw[if_pos (by simp[Region.wanted,hg])];left;unfold Oper.wp;rw[he,Oper.upon_value];exact hn
theorem zo2{args:List PV}{us:List Value}(hargs:VRels C args us)(hn:args.length<=N):FRel C N (slot (zcy args 0)) { tmps:=us.toArray++qG (N - us.toArray.size) Go.undef,defers:=[] }:=by
 refine⟨by simp[hargs.1];omega,λt=> ?_⟩;rw[zem];simp only[Nat.zero_le,if_true,Nat.sub_zero];by_cases ht:t<args.length
 .have htu:t<us.length:=by rw[hargs.1];exact ht
  have e1:args.getD t .undef=args[t]:=by simp[qW,ht]
  have e2:(us.toArray++qG (N - us.toArray.size) Go.undef).getD t Go.undef=us[t]:=by rw[qS,qU (by simpa using htu)];simp[htu]
  rw[e1,e2];exact hargs.2 t _ _ (qD ht) (qD htu)
 .have e1:args.getD t .undef= .undef:=by simp[qW,qX (by omega:args.length<=t)]
  rw[e1];exact .undef _
theorem WRel.drop{A K:za}{C0:Ctx}{w0:World}(h0:WRel C0 H w0)(hl:H.length=A.length)(hA:HSc A)(hle:CLe C0 C)(hw:WRel C (A++K) w):∃ C',CLe C0 C'/\WRel C' A w:=by obtain⟨g1,g2⟩:=hw.cutN (CutH.base hA);exact⟨_,((hle.toN _).trans (g1.less (m:=H.length) om)).full h0.lenv,g2⟩
theorem zok{all:Array Oper}{o:Oper}{rest:List Oper}{d:Deferred}{Q:Exit->Act->World->Prop}(hg:o.guard=none)(he:(execOp a.eval o).run P w= .ok (.defer d) w)(hn:wpList P all Q rest ({ a with defers:=d::a.defers }.put o.dst Go.undef) w):wpList P all Q (o::rest) a w:=by unfold wpList;rw[if_pos (by simp[Region.wanted,hg])];left;unfold Oper.wp;rw[he,Oper.upon_defer];exact hn
theorem PW.hand{c:Code}{F1:Fr}{H1:za}{Q:Exit->Act->World->Prop}(ks:List Nat)(h:PW P ⟨N,H⟩ c F H (λx F' H'=>x= .normal/\kp ks F'=F1/\H'=H1))(hd:a.defers=[])(hw:WRel C H w)(hf:FRel C N (slot F) a)
  (hn:∀ C' a' w',CLe C C'->a'.defers=[]->WRel C' H1 w'->Below C.B w w'->FRel C' N (slot F1) a'->Q .normal a' w'):c.wp P Q a w:=by
 refine wp_mono (h hw.hsc C a w hd hw hf) ?_;rintro x a' w' ⟨C',F',H',y1,y2,y3,y4,y5,rfl,rfl,rfl⟩;exact hn C' a' w' (y1.full hw.lenv) y2 y3 y4 (y5.keep ks)
theorem zeA{id:Nat}{ops:Array Oper}{K:Fr->za->Prop}{Q:Exit->Act->World->Prop}(n:Nat)(hd:(ops.toList.take n).all (zU N)=true)(h:VO P (ops.toList.map (·.dst)) (ops.toList.take n) (some (F,H)) K){D:List Deferred}(hD:a.defers=D)(hw:WRel C H w)(hf:FRel C N (slot F) a)
  (hn:∀ C' F' H' a' w',CLe C C'->a'.defers=D->WRel C' H' w'->Below C.B w w'->FRel C' N (slot F') a'->K F' H'->wpList P ops Q (ops.toList.drop n) a' w'):(Code.region id ops false).wp P Q a w:=by
 refine wp_region_list ?_;have:=zcU (P:=P) (all:=ops.toList) (rest:=ops.toList.drop n) (ops.toList.take n) F H hd (zaS _ _ _ h) C a w hD hw hf Q (λC' F' H' a' w' p1 p2 p3 p4 p5 p6=>by
  simpa using hn C' F' H' a' w' p1 p2 p3 p4 p5 p6)
 rw[qL]at this;simpa using this
theorem WRel.dropV{A K:za}{C0:Ctx}{w0:World}{v:PV}{u:Value}(h0:WRel C0 H w0)(hl:H.length=A.length)(hA:HSc A)(hle:CLe C0 C)(hw:WRel C (A++K) w)(hv:VRel C v u)(hs:Scoped A.length v):∃ C',CLe C0 C'/\WRel C' A w/\VRel C' v u:=by obtain⟨g1,g2⟩:=hw.cutN (CutH.base hA);exact⟨_,((hle.toN _).trans (g1.less (m:=H.length) om)).full h0.lenv,g2,(Fz.id hs).sound hw hv⟩
end Go.Proofs.YtdajpjenhcobkaaGreatDoor.Pm
namespace Go.Proofs.YtdajpjenhcobkaaGreatDoor.Sc
open Pm Ty Go.RowKit
theorem zvf(U:List (List UInt8))(k:Nat)(hk:k<U.length):(U.flatMap zlT)[k]? =some (.slice (bs U[k]) U[k].length false):=by have:=zfp zlT 1 U k 0 hk (λ_ _=>rfl) om;rwa[Nat.mul_one,Nat.add_zero]at this
theorem zwZ(U:List (List UInt8)):(U.flatMap zlT).length=U.length:=by rw[zaH zlT 1 U λ_ _=>rfl,Nat.mul_one]
def itL(l:List It):List PV:=l.flatMap itc
theorem ztK(l:List It)(h:∀ x∈l,SqOk x.s):(itL l).length=l.length * 148:=zaH itc 148 l λx hx=>zgU x (h x hx)
theorem zwi(l:List It)(h:∀ x∈l,SqOk x.s)(k:Nat)(hk:k<l.length):qH 148 (qB (k * 148) (itL l))=itc l[k]:=zdt itc 148 l k hk λx hx=>zgU x (h x hx)
theorem ztL(l:List It)(h:∀ x∈l,SqOk x.s)(k r:Nat)(hk:k<l.length)(hr:r<148):(itL l)[k * 148+r]? =(itc l[k])[r]? :=zfp itc 148 l k r hk (λx hx=>zgU x (h x hx)) hr
theorem zwh(n:Nat)(l:List It):∀ x∈itL l,Scoped n x:=λx hx=>by obtain⟨u,_,hx⟩:=qQ.1 hx;exact zwf _ _ x hx
theorem ztJ(l:List It)(h:∀ x∈l,SqOk x.s)(k r n:Nat)(hk:k<l.length)(hr:r+n<=148):qH n (qB (k * 148+r) (itL l))=qH n (qB r (itc l[k])):=by rw[<-zwi l h k hk,List.drop_take,List.take_take,Nat.min_eq_left om,qV]
def ztv(x:It):Bool:= !(decide (5000<x.pad)&&decide (x.pad<=1048576))
def ltI(x:It):Bool:=(ztv x&&(decide (x.U.length<=4)&&decide (x.us.length<=8)))&&((x.U.all λu=>decide (u.length<=400))&&(x.us.all λu=>decide (u.2.length<=3000)))
def ltB(l:List It):Bool:=decide (l.length<=60)&&l.all ltI
theorem zcn{α:Type}(f:α->Bool)(l:List α)(j:Nat)(h:j<l.length):(l.drop j).all f=(f l[j]&&(l.drop (j+1)).all f):=by rw[List.drop_eq_getElem_cons h];rfl
theorem ztG(l:List It)(f:Bool)(H:za)(hs:∀ x∈l,SqOk x.s):CallOk qM 5 [.slice (itL l) l.length f] H (.bool (ltB l)) H:=by
 have ln:=ztK l hs;have fin:∀(b:Bool) (K:za),Fin H (.bool b) H (.bool b) (H++K):=λb K=>Fin.base (.id (.bool _));have fin0:∀(b:Bool),Fin H (.bool b) H (.bool b) H:=λb=>Fin.now;unfold ltB;refine .go Tryz.func5 Tryz.ntmps5 Tryz.results5 ?_;refine .e ?_;refine .e ?_;by_cases h60:l.length<=60;rotate_left
 .have d1:decide ((60:Int)<(l.length:Int))=true:=decide_eq_true om;refine .c (λh=> ?_) (λh=> ?_);rotate_left
  .simp_all
  rw[decide_eq_false h60,qA];refine .e ?_;refine .v (.bool false) ?_;exact fin0 _
 have d1:decide ((60:Int)<(l.length:Int))=false:=decide_eq_false om;refine .c (λh=> ?_) (λh=> ?_)
 .simp_all
 rw[decide_eq_true h60,qF];refine .skip ?_;refine .e ?_;refine .l ?_;suffices hl1:∀ j:Nat,j<=l.length->(l.drop j).all ltI=l.all ltI->PL qM _ _ [(0,.slice (itL l) l.length f),(3,.int .i64 (j:Int))] H _ by exact .at [0,3] (hl1 0 om rfl) rfl rfl
 intro j hj hf;induction hd:l.length - j using qT generalizing j with
 | _ d ih=>
  refine .round ?_;refine .e ?_;refine .c (λh=> ?_) (λh=> ?_)
  .have hjl:j<l.length:=by simp_all
   have ip:=ztL l hs j 147 hjl om;have hc:=ztJ l hs j 139 8 hjl om;have hx:=hs l[j] (List.getElem_mem hjl);rw[ztI _ hx]at ip;rw[zxE _ hx]at hc;rw[zcn ltI l j hjl]at hf;have hnext:=λhf=>ih (l.length - (j+1)) om (j+1) om hf rfl;generalize l[j]=x at *;refine .skip ?_;refine .b ?_;have c1:=zd7 x.p x.U x.us;have c2:=zeu x.p x.U x.us;have c6:(cdc x.p x.U x.us)[6]? =some (usr x.U):=rfl;have c7:=zsk x.p x.U x.us;have c8:qB 8 (cdc x.p x.U x.us)=[]:=rfl;have ul:=zwZ x.U;have ql:=zlU x.us;refine .f (λK k=>by simp(disch:=omega) only[go_sem,ln,hc,c1,c2,c8,List.append_nil];exact k) ?_;suffices hrest:PW qM _ _ [(0,.slice (itL l) l.length f),(3,.int .i64 (j:Int)),(4,.ptr H.length 0 0),(46,.bool (!(ztv x&&(decide (x.U.length<=4)&&decide (x.us.length<=8)))))] (H++[⟨37,0,cdc x.p x.U x.us⟩]) _ by
    unfold ztv at hrest;by_cases p1:5000<x.pad
    .have e1:decide (5000<x.pad)=true:=decide_eq_true p1;by_cases p2:x.pad<=1048576
     .have e2:decide (x.pad<=1048576)=true:=decide_eq_true p2;rw[e1,e2]at hrest;refine .g (nq2 ln (nq2 ip (nq2 e1 e2))) ?_;exact .at [0,3,4,46] hrest rfl rfl
     .have e2:decide (x.pad<=1048576)=false:=decide_eq_false p2;rw[e1,e2]at hrest;by_cases p3:x.U.length<=4
      .have e3:decide ((4:Int)<(x.U.length:Int))=false:=decide_eq_false om;have e4:decide ((8:Int)<(x.us.length:Int))= !decide (x.us.length<=8):=by rw[Bool.eq_iff_iff];simp;omega
       rw[decide_eq_true p3]at hrest;refine .f (λK k=>by simp(disch:=omega) only[go_sem,ln,ip,e1,e2,c2,c6,usr,c7,e3,e4];exact k) ?_;exact .at [0,3,4,46] hrest (by simp[kp,slot,Nat.beq]) rfl
      .have e3:decide ((4:Int)<(x.U.length:Int))=true:=decide_eq_true om;rw[decide_eq_false p3]at hrest;refine .f (λK k=>by simp(disch:=omega) only[go_sem,ln,ip,e1,e2,c2,c6,usr,c7,e3];exact k) ?_;exact .at [0,3,4,46] hrest (by simp[kp,slot,Nat.beq]) rfl
    .have e1:decide (5000<x.pad)=false:=decide_eq_false p1;rw[e1]at hrest;by_cases p3:x.U.length<=4
     .have e3:decide ((4:Int)<(x.U.length:Int))=false:=decide_eq_false om;have e4:decide ((8:Int)<(x.us.length:Int))= !decide (x.us.length<=8):=by rw[Bool.eq_iff_iff];simp;omega
      rw[decide_eq_true p3]at hrest;refine .f (λK k=>by simp(disch:=omega) only[go_sem,ln,ip,e1,c2,c6,usr,c7,e3,e4];exact k) ?_;exact .at [0,3,4,46] hrest (by simp[kp,slot,Nat.beq]) rfl
     .have e3:decide ((4:Int)<(x.U.length:Int))=true:=decide_eq_true om;rw[decide_eq_false p3]at hrest;refine .f (λK k=>by simp(disch:=omega) only[go_sem,ln,ip,e1,c2,c6,usr,c7,e3];exact k) ?_;exact .at [0,3,4,46] hrest (by simp[kp,slot,Nat.beq]) rfl
   unfold ltI at hf;cases hA:(ztv x&&(decide (x.U.length<=4)&&decide (x.us.length<=8)))with
   | false=>
    rw[hA,qA,qA]at hf;refine .t ?_;refine .e ?_;refine .v (.bool false) ?_;rw[show(l.all ltI)=false from hf.symm];exact fin _ _
   | true=>
    rw[hA,qF]at hf;simp only[qJ,decide_eq_true_eq]at hA;obtain⟨_,hU4,hu8⟩:=hA;refine .us ?_;refine .e ?_;refine .l ?_;suffices hl2:∀ k:Nat,k<=x.U.length->((((x.U.drop k).all λu=>decide (u.length<=400))&&(x.us.all λu=>decide (u.2.length<=3000)))&&(l.drop (j+1)).all ltI)=l.all ltI->PL qM _ _ [(0,.slice (itL l) l.length f),(3,.int .i64 (j:Int)),(4,.ptr H.length 0 0),(5,.int .i64 (k:Int))] (H++[⟨37,0,cdc x.p x.U x.us⟩]) _ by exact .at [0,3,4,5] (hl2 0 om hf) rfl rfl
    clear hf;intro k hk hf;induction hd2:x.U.length - k using qT generalizing k with
    | _ d2 ih2=>
     refine .round ?_;refine .f (λK k=>by simp(disch:=omega) only[go_sem,c2,c6,usr];exact k) ?_;refine .c (λh=> ?_) (λh=> ?_)
     .have hkU:k<x.U.length:=by grind
      have ua:=zvf x.U k hkU;rw[zcn _ x.U k hkU]at hf;have hn2:=λhf=>ih2 (x.U.length - (k+1)) om (k+1) om hf rfl;generalize x.U[k]=u at *;refine .skip ?_;refine .b ?_;by_cases h4:u.length<=400
      .have d4:decide ((400:Int)<(u.length:Int))=false:=decide_eq_false om;rw[decide_eq_true h4,qF]at hf;refine .f (λK k=>by simp(disch:=omega) only[go_sem,c2,c6,usr,ua,ul,d4];exact k) ?_;refine .us ?_;refine .e ?_;exact .at [0,3,4,5] (hn2 hf) rfl rfl
      .have d4:decide ((400:Int)<(u.length:Int))=true:=decide_eq_true om;rw[decide_eq_false h4,qA,qA,qA]at hf;refine .f (λK k=>by simp(disch:=omega) only[go_sem,c2,c6,usr,ua,ul,d4];exact k) ?_;refine .t ?_;refine .e ?_;refine .v (.bool false) ?_;rw[<-hf];exact fin _ _
     .have hkU:k=x.U.length:=by grind
      rw[hkU,qR,List.all_nil,qF]at hf;refine .exit ?_;clear ih2;refine .e ?_;refine .l ?_;suffices hl3:∀ k:Nat,k<=x.us.length->(((x.us.drop k).all λu=>decide (u.2.length<=3000))&&(l.drop (j+1)).all ltI)=l.all ltI->PL qM _ _ [(0,.slice (itL l) l.length f),(3,.int .i64 (j:Int)),(4,.ptr H.length 0 0),(6,.int .i64 (k:Int))] (H++[⟨37,0,cdc x.p x.U x.us⟩]) _ by exact .at [0,3,4,6] (hl3 0 om hf) rfl rfl
      clear hf hkU hk h hd2;intro k hk hf;induction hd3:x.us.length - k using qT generalizing k with
      | _ d3 ih3=>
       refine .round ?_;refine .g (nq2 c2 c7) ?_;refine .c (λh=> ?_) (λh=> ?_)
       .have hku:k<x.us.length:=by grind
        have u1:=uq_1 x.us k hku;rw[zcn _ x.us k hku]at hf;have hn3:=λhf=>ih3 (x.us.length - (k+1)) om (k+1) om hf rfl;generalize x.us[k]=u at *;refine .skip ?_;refine .b ?_;by_cases h4:u.2.length<=3000
        .have d4:decide ((3000:Int)<(u.2.length:Int))=false:=decide_eq_false om;rw[decide_eq_true h4,qF]at hf;refine .g (nq2 c2 (nq2 c7 (nq2 u1 (nq2 ql d4)))) ?_;refine .us ?_;refine .e ?_;exact .at [0,3,4,6] (hn3 hf) rfl rfl
        .have d4:decide ((3000:Int)<(u.2.length:Int))=true:=decide_eq_true om;rw[decide_eq_false h4,qA,qA]at hf;refine .g (nq2 c2 (nq2 c7 (nq2 u1 (nq2 ql d4)))) ?_;refine .t ?_;refine .e ?_;refine .v (.bool false) ?_;rw[<-hf];exact fin _ _
       .have hku:k=x.us.length:=by grind
        rw[hku,qR,List.all_nil,qF]at hf;refine .exit ?_;refine .e ?_;refine .keep [0,3] ?_;refine .view (Vs.trim (F1:=[(0,.slice (itL l) l.length f),(3,.int .i64 ((j+1:Nat):Int))]) (H1:=H) (λh=>h) (Nat.le_refl _) rfl ?_) (hnext hf);exact⟨.id (zr (zwh _ _)),.id (.int _ _),trivial⟩
  .have hjl:j=l.length:=by grind
   subst hjl;rw[qR]at hf;rw[<-hf];refine .exit ?_;refine .e ?_;refine .v (.bool true) ?_;exact fin0 _
end Go.Proofs.YtdajpjenhcobkaaGreatDoor.Sc
