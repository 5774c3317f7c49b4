/-
  Parts of the proof, put together in one text. No condition.
-/
import Derived.Test.YtpjlfoficnpfoaaGreatDoorV12
open Array renaming toArray_toList → jH
open Bool renaming and_eq_true → qB, false_and → qH, true_and → qJ, or_eq_true → jA
open Int renaming natCast_mul → qI, ofNat_inj → jE
open List renaming getElem?_eq_some_iff → qA, length_append → qC, getElem?_append_right → qD, set_append_right → qE, drop → qF, set_comm → qG, mem_append → qK, length_modify → qL, flatMap_cons → qM, take → qN, length_cons → qO, set_set → qP, length_nil → qQ, set_append_left → qS, getElem?_set_ne → qT, mem_singleton → qU, mem_cons_self → qV, drop_length → qX, append_nil → qZ, drop_drop → jB, getElem?_append_left → jC, mem_cons → jD, take_of_length_le → jF, mem_cons_of_mem → jI
open Nat renaming strongRecOn → qR, add_mul → qY, mul_comm → jG
open Option renaming some → qW
namespace Go.Proofs.YtpjlfoficnpfoaaGreatDoor.Sc
set_option linter.all false
open Pm Ty Go.RowKit
theorem cnt{R:Nat→Prop}(n:Nat)(hs:∀ j,j<n→R (j+1)→R j)(hl:R n):∀ j,j≤n→R j:=fun j hj=>by
 induction hd:n - j using qR generalizing j with
 | _ d ih=>
  by_cases h:j<n
  ·exact hs j h (ih (n - (j+1)) om (j+1) om rfl)
  ·rw[show j=n from om];exact hl
theorem ze9{j n:Nat}(h:j<n):decide ((j:Int)<(n:Int))=true:=decide_eq_true om
theorem zl9(n:Nat):decide ((n:Int)<(n:Int))=false:=decide_eq_false om
def zi:List Int:=List.replicate 64 0
end Go.Proofs.YtpjlfoficnpfoaaGreatDoor.Sc
namespace Go.Proofs.YtpjlfoficnpfoaaGreatDoor.Sc
set_option linter.all false
open Pm Go.RowKit
def zt5(r:Option Res)(v:PV):Bool:=match r with
 | some (.val w [])=>eqb 20 w v
 | _=>false
theorem _root_.Go.Proofs.YtpjlfoficnpfoaaGreatDoor.Pm.CallOk.evalV{P:Program}{H:za}(n:Nat){f:FuncId}{args:List PV}{v:PV}(h:zt5 (ziB P n (.call f args [])) v=true)(hs:∀ x∈args,Scoped 0 x):CallOk P f args H v H:=by
 refine CallOk.eval n ?_ hs;unfold zt5 at h;split at h
 ·rename_i he;rw[he,zfT 20 _ _ h]
 ·cases h
theorem hl7(H:za)(b0 b1 b2 b3 b4 b5 b6:Blk):(H++[b0,b1,b2,b3,b4,b5,b6]).length=H.length+7:=by simp
theorem hl8(H:za)(b0 b1 b2 b3 b4 b5 b6 b7:Blk):(H++[b0,b1,b2,b3,b4,b5,b6,b7]).length=H.length+8:=by simp
theorem hl9(H:za)(b0 b1 b2 b3 b4 b5 b6 b7 b8:Blk):(H++[b0,b1,b2,b3,b4,b5,b6,b7,b8]).length=H.length+9:=by simp
theorem hl10(H:za)(b0 b1 b2 b3 b4 b5 b6 b7 b8 b9:Blk):(H++[b0,b1,b2,b3,b4,b5,b6,b7,b8,b9]).length=H.length+10:=by simp
theorem hl11(H:za)(b0 b1 b2 b3 b4 b5 b6 b7 b8 b9 b10:Blk):(H++[b0,b1,b2,b3,b4,b5,b6,b7,b8,b9,b10]).length=H.length+11:=by simp
theorem hl12(H:za)(b0 b1 b2 b3 b4 b5 b6 b7 b8 b9 b10 b11:Blk):(H++[b0,b1,b2,b3,b4,b5,b6,b7,b8,b9,b10,b11]).length=H.length+12:=by simp
theorem hp7(H K:za)(b0 b1 b2 b3 b4 b5 b6 b7:Blk):(H++b0::b1::b2::b3::b4::b5::b6::b7::K)[H.length+7]? =some b7:=by rw[qD om];simp
theorem hs7(H K:za)(b0 b1 b2 b3 b4 b5 b6 b7 x:Blk):(H++b0::b1::b2::b3::b4::b5::b6::b7::K).set (H.length+7) x=H++b0::b1::b2::b3::b4::b5::b6::x::K:=by rw[qE _ _ om];simp
theorem hp8(H K:za)(b0 b1 b2 b3 b4 b5 b6 b7 b8:Blk):(H++b0::b1::b2::b3::b4::b5::b6::b7::b8::K)[H.length+8]? =some b8:=by rw[qD om];simp
theorem hs8(H K:za)(b0 b1 b2 b3 b4 b5 b6 b7 b8 x:Blk):(H++b0::b1::b2::b3::b4::b5::b6::b7::b8::K).set (H.length+8) x=H++b0::b1::b2::b3::b4::b5::b6::b7::x::K:=by rw[qE _ _ om];simp
theorem hp9(H K:za)(b0 b1 b2 b3 b4 b5 b6 b7 b8 b9:Blk):(H++b0::b1::b2::b3::b4::b5::b6::b7::b8::b9::K)[H.length+9]? =some b9:=by rw[qD om];simp
theorem hs9(H K:za)(b0 b1 b2 b3 b4 b5 b6 b7 b8 b9 x:Blk):(H++b0::b1::b2::b3::b4::b5::b6::b7::b8::b9::K).set (H.length+9) x=H++b0::b1::b2::b3::b4::b5::b6::b7::b8::x::K:=by rw[qE _ _ om];simp
theorem hp10(H K:za)(b0 b1 b2 b3 b4 b5 b6 b7 b8 b9 b10:Blk):(H++b0::b1::b2::b3::b4::b5::b6::b7::b8::b9::b10::K)[H.length+10]? =some b10:=by rw[qD om];simp
theorem hs10(H K:za)(b0 b1 b2 b3 b4 b5 b6 b7 b8 b9 b10 x:Blk):(H++b0::b1::b2::b3::b4::b5::b6::b7::b8::b9::b10::K).set (H.length+10) x=H++b0::b1::b2::b3::b4::b5::b6::b7::b8::b9::x::K:=by rw[qE _ _ om];simp
theorem hp11(H K:za)(b0 b1 b2 b3 b4 b5 b6 b7 b8 b9 b10 b11:Blk):(H++b0::b1::b2::b3::b4::b5::b6::b7::b8::b9::b10::b11::K)[H.length+11]? =some b11:=by rw[qD om];simp
theorem hs11(H K:za)(b0 b1 b2 b3 b4 b5 b6 b7 b8 b9 b10 b11 x:Blk):(H++b0::b1::b2::b3::b4::b5::b6::b7::b8::b9::b10::b11::K).set (H.length+11) x=H++b0::b1::b2::b3::b4::b5::b6::b7::b8::b9::b10::x::K:=by rw[qE _ _ om];simp
attribute [go_sem] hl7 hl8 hl9 hl10 hl11 hl12 hp7 hs7 hp8 hs8 hp9 hs9 hp10 hs10 hp11 hs11
theorem asc{n:Nat}{xs:List PV}(h:∀ x∈xs,Scoped n x):∀(j:Nat) (x:PV),xs[j]? =some x→Scoped n x:=fun j x hx=>h x (List.mem_of_getElem? hx)
end Go.Proofs.YtpjlfoficnpfoaaGreatDoor.Sc
namespace Go.Proofs.YtpjlfoficnpfoaaGreatDoor.Sc
set_option linter.all false
open Pm Ty Go.RowKit
structure Fok(V K:Nat)(y u v:List UInt8):Prop where
 rv:1≤V∧V≤32
 rk:1≤K∧K≤16
 ly:y.length=2 * K * (2 * (2 * V))
 lu:u.length=K * (2 * V)
 lv:v.length=K * (2 * V)
def f0:Fm:=⟨0,0,[],[],[]⟩
end Go.Proofs.YtpjlfoficnpfoaaGreatDoor.Sc
namespace Go.Proofs.YtpjlfoficnpfoaaGreatDoor.Pm
set_option linter.all false
open Go.RowKit
variable {P:Program} {C:Ctx} {H:za} {w:World} {F:Fr} {a:Act} {N:Nat}
noncomputable def opE(P:Program)(n:Nat)(ds:List (Option Nat))(o:Oper)(F:Fr)(H:za):Option (Fr×za):=
 match zE o.op with
 | false=>stp P ds o F H
 | true=>match zan ds F o with
  | some true=>match zk o.op (slot F)with
   | some (g,args)=>match ziB P n (.call g args H)with
    | some (.val v H1)=>some (put F o.dst v,H1)
    | _=>none
   | none=>none
  | some false=>some (put F o.dst (.tup []),H)
  | none=>none
theorem zoe{n:Nat}{all:List Oper}{o:Oper}{F1:Fr}{H1:za}(h:opE P n (all.map (·.dst)) o F H=some (F1,H1)):
  (zbi all (slot F) o=some false∧F1=put F o.dst (.tup [])∧H1=H)∨(zbi all (slot F) o=some true∧∃ v,Exec P o (slot F) H v H1∧F1=put F o.dst v):=by
 have hcl:zE o.op=false→zk o.op (slot F)=none:=fun hc=>by
  unfold zk;split
  ·rename_i f args ts ho;rw[ho]at hc;simp[zE]at hc
  ·rfl
 unfold opE at h;split at h
 ·rename_i hc;unfold stp at h;split at h
  ·rename_i hb;split at h
   ·rename_i v H' hp;simp only[qW.injEq,Prod.mk.injEq]at h;obtain⟨rfl,rfl⟩:=h;exact .inr ⟨zq all F o hb,v,by unfold Exec;rw[hcl hc];exact hp,rfl⟩
   ·cases h
  ·rename_i hb;simp only[qW.injEq,Prod.mk.injEq]at h;obtain⟨rfl,rfl⟩:=h;exact .inl ⟨zq all F o hb,rfl,rfl⟩
  ·cases h
 ·split at h
  ·rename_i hb;split at h
   ·rename_i g args hp;split at h
    ·rename_i v H' he;simp only[qW.injEq,Prod.mk.injEq]at h;obtain⟨rfl,rfl⟩:=h;exact .inr ⟨zq all F o hb,v,by unfold Exec;rw[hp];exact zeA n _ _ he,rfl⟩
    ·cases h
   ·cases h
  ·rename_i hb;simp only[qW.injEq,Prod.mk.injEq]at h;obtain⟨rfl,rfl⟩:=h;exact .inl ⟨zq all F o hb,rfl,rfl⟩
  ·cases h
def zgB{α:Type}(g:Nat→Option (List α)):List Nat→Option (List α)
 | []=>some []
 | i::r=>match g i with
  | some x=>match zgB g r with
   | some y=>some (x++y)
   | none=>none
  | none=>none
theorem zgi{α:Type}{g:Nat→Option (List α)}:∀{l:List Nat} {L:List α},zgB g l=some L→∀ i∈l,∃ x,g i=some x∧∀ y∈x,y∈L
 | [],L,_,i,hi=>by cases hi
 | j::r,L,h,i,hi=>by
  simp only[zgB]at h;split at h
  ·rename_i x hx;split at h
   ·rename_i y hy;injection h with h;subst h;rcases jD.1 hi with rfl|hi
    ·exact⟨x,hx,fun z hz=>qK.2 (.inl hz)⟩
    ·obtain⟨x',h1,h2⟩:=zgi hy i hi;exact⟨x',h1,fun z hz=>qK.2 (.inr (h2 z hz))⟩
   ·cases h
  ·cases h
noncomputable def zrG(P:Program)(n N:Nat)(ops:Array Oper):Nat→Array Bool→Fr→za→Option (List (Fr×za))
 | 0,listed,F,H=>match Region.ready .any ops listed with|[]=>some [(F,H)]|_=>none
 | k+1,listed,F,H=>match Region.ready .any ops listed with
  | []=>some [(F,H)]
  | r=>zgB (fun i=>match ops[i]? with
   | some o=>match zI N o with
    | true=>match opE P n (ops.toList.map (·.dst)) o F H with
     | some (F1,H1)=>zrG P n N ops k (listed.setIfInBounds i true) F1 H1
     | none=>none
    | false=>none
   | none=>none) r
theorem zhY{n:Nat}{ops:Array Oper}{Q:Exit→Act→World→Prop}:∀(k:Nat) (listed:Array Bool) (F:Fr) (H:za) (L:List (Fr×za)),zrG P n N ops k listed F H=some L→∀(C:Ctx) (a:Act) (w:World),a.defers=[]→WRel C H w→FRel C N (slot F) a→
  (∀ C' F' H' a' w',CLe C C'→a'.defers=[]→WRel C' H' w'→Below C.B w w'→FRel C' N (slot F') a'→(F',H')∈L→Q .normal a' w')→wpAny P .any ops Q k listed a w
 | 0,listed,F,H,L,h,C,a,w,hd,hw,hf,hQ=>by
  simp only[zrG]at h;split at h
  ·rename_i hr;injection h with h;subst h;exact⟨hr,hQ C F H a w (.refl _) hd hw (.refl _ _) hf sp⟩
  ·cases h
 | k+1,listed,F,H,L,h,C,a,w,hd,hw,hf,hQ=>by
  simp only[zrG]at h;split at h
  ·rename_i hr;injection h with h;subst h;exact⟨fun _=>hQ C F H a w (.refl _) hd hw (.refl _ _) hf sp,fun i hi=>by rw[hr]at hi;cases hi⟩
  ·rename_i hne;refine⟨fun e=>absurd e hne,fun i hi=> ?_⟩;obtain⟨x,hx,hsub⟩:=zgi h i hi;split at hx
   ·rename_i o ho;split at hx
    ·rename_i hdst;split at hx
     ·rename_i F1 H1 hop;unfold wpOp;rw[ho];simp only;have next:∀ C' u w' v,F1=put F o.dst v→CLe C C'→WRel C' H1 w'→Below C.B w w'→FRel C' N (upd (slot F) o.dst v) (a.put o.dst u)→wpAny P .any ops Q k (listed.setIfInBounds i true) (a.put o.dst u) w':=by intro C' u w' v hF1 q1 q2 q3 q4;refine zhY k _ F1 H1 x hx C' _ w' (by cases hod:o.dst<;>simp[Act.put,hd]) q2 (by rw[hF1,zU];exact q4) ?_;intro C'' F'' H'' a'' w'' p1 p2 p3 p4 p5 p6;exact hQ C'' F'' H'' a'' w'' (q1.trans p1) p2 p3 (q3.trans (by rw[←q1.B];exact p4)) p5 (hsub _ p6)
      rcases zoe hop with⟨h1,h2,h3⟩|⟨h1,v,h2,h3⟩
      ·have hwant:=zJ hf h1;rw[jH]at hwant;rw[if_neg (by rw[hwant];simp)];exact next C _ w (.tup []) h2 (.refl _) (h3▸hw) (.refl _ _) (hf.put o.dst (zay hdst) VRel.undefV)
      ·have hwant:=zJ hf h1;rw[jH]at hwant;rw[if_pos hwant];left;exact zc9 hdst hw hf h2 _ _ (fun C' u w' q1 q2 q3 q4=>next C' u w' v h3 q1 q2 q3 q4)
     ·cases hx
    ·cases hx
   ·cases hx
theorem PW.any{E:Env}{Q:Exit→Fr→za→Prop}{id n:Nat}{ops:Array Oper}{L:List (Fr×za)}(hm:P.follows .mixedOrders=true)(h:zrG P n E.N ops ops.size (Array.replicate ops.size false) F H=some L)(hQ:∀ F' H',(F',H')∈L→Q .normal F' H'):
  PW P E (.region id ops true) F H Q:=fun hs C a w hdf hw hf=>by
 refine wp_region_any hm ?_;refine zhY ops.size _ F H L h C a w.drew hdf hw.drew hf ?_;rintro C' F' H' a' w' p1 p2 p3 p4 p5 p6;exact⟨C',F',H',p1.toN _,p2,p3,((Below.refl C.B w).drew).trans p4,p5,hQ F' H' p6⟩
end Go.Proofs.YtpjlfoficnpfoaaGreatDoor.Pm
namespace Go.Proofs.YtpjlfoficnpfoaaGreatDoor.Sc
set_option linter.all false
open Pm Ty Go.RowKit
def mx3(a b c:Int):Int:=if c>(if b>a then b else a)then c else(if b>a then b else a)
theorem zwS(k:IntKind)(a b c:Int):ze1 zn3 (.int k a) [.int k b,.int k c]=some (.int k (mx3 a b c)):=rfl
def mx6(a b c d e f:Int):Int:=(fun x=>if f>x then f else x) ((fun x=>if e>x then e else x) ((fun x=>if d>x then d else x) (mx3 a b c)))
theorem zwR(k:IntKind)(a b c d e f:Int):ze1 zn3 (.int k a) [.int k b,.int k c,.int k d,.int k e,.int k f]=some (.int k (mx6 a b c d e f)):=rfl
attribute [go_sem high] zwS zwR
structure F16(f:Fm):Prop where
 w:f.w=16
 h:f.h=16
 ly:f.y.length=256
 lu:f.u.length=64
 lv:f.v.length=64
theorem F16.fvd{f:Fm}(h:F16 f):fvd f=true:=by obtain⟨w,h,y,u,v⟩:=f;obtain⟨rfl,rfl,ly,lu,lv⟩:=h;simp only at ly lu lv;simp[Sc.fvd,fmd,fsz,ly,lu,lv]
def cmp(f:Fm)(n:Nat):List UInt8:=if n=4 then f.u else if n=5 then f.v else f.y
def zwG(f:Fm)(n:Nat)(p:List UInt8):Fm:=if n=4 then⟨f.w,f.h,f.y,p,f.v⟩else if n=5 then⟨f.w,f.h,f.y,f.u,p⟩else⟨f.w,f.h,p,f.u,f.v⟩
theorem F16.cmp{f:Fm}(h:F16 f){n:Nat}(hn:n<6):(cmp f n).length=bln n:=by
 unfold Sc.cmp bln;split
 ·rw[if_pos om];exact h.lu
 ·split
  ·rw[if_pos om];exact h.lv
  ·rw[if_neg om];exact h.ly
theorem F16.stc{f:Fm}(h:F16 f){n:Nat}(hn:n<6){p:List UInt8}(hp:p.length=bln n):F16 (zwG f n p):=by
 unfold zwG;split
 ·exact⟨h.w,h.h,h.ly,by rw[hp];subst n;rfl,h.lv⟩
 ·split
  ·exact⟨h.w,h.h,h.ly,h.lu,by rw[hp];subst n;rfl⟩
  ·exact⟨h.w,h.h,by rw[hp,bln,if_neg om],h.lu,h.lv⟩
structure nrF(D:Int)(f g:Fm):Prop where
 w:f.w=g.w
 h:f.h=g.h
 y:nr D f.y g.y
 u:nr D f.u g.u
 v:nr D f.v g.v
theorem nrF.refl{D:Int}(h:0≤D)(f:Fm):nrF D f f:=⟨rfl,rfl,.refl h _,.refl h _,.refl h _⟩
theorem nrF.fmd{D:Int}{f g:Fm}(h:nrF D f g):fmd f=fmd g:=by unfold Sc.fmd;rw[h.w,h.h,h.y.1,h.u.1,h.v.1]
theorem nrF.fvd{D:Int}{f g:Fm}(h:nrF D f g):fvd f=fvd g:=by unfold Sc.fvd;rw[h.fmd,h.w,h.h]
structure selB(m:Mb):Prop where
 a:m.sa=0∨m.sa=1
 b:m.sb=0∨m.sb=1
 c:m.sc=0∨m.sc=1
 d:m.sd=0∨m.sd=1
def one(H:za)(r:Nat)(B:Blk):za:=H.set r B
structure Itp(i2 i3 i4 i5 i6:Nat)(p:List UInt8)(W R:Nat)(dx dy:Int)(H:za):Prop where
 a:H[i2]? =some ⟨3,0,[.int .i64 (W:Int)]⟩
 b:H[i3]? =some ⟨3,1,[.int .i64 dx]⟩
 c:H[i4]? =some ⟨3,0,[.int .i64 (R:Int)]⟩
 d:H[i5]? =some ⟨3,1,[.int .i64 dy]⟩
 e:H[i6]? =some ⟨31,0,[.slice (bs p) p.length false]⟩
structure Hok(V K:Nat)(f:Fm):Prop where
 w:f.w=((2 * V:Nat):Int)
 h:f.h=((2 * K:Nat):Int)
 rv:1≤V∧V≤32
 rk:1≤K∧K≤16
 ly:f.y.length=2 * K * (2 * V)
 lu:f.u.length=K * V
 lv:f.v.length=K * V
theorem Hok.fmd{V K:Nat}{f:Fm}(h:Hok V K f):fmd f=true:=by
 obtain⟨w,ht,y,u,v⟩:=f;obtain⟨hw,hh,⟨v1,v2⟩,⟨k1,k2⟩,ly,lu,lv⟩:=h;simp only at hw hh ly lu lv;subst hw hh;have e1:((2 * V:Nat):Int) / 2=(V:Int):=om;have e2:((2 * K:Nat):Int) / 2=(K:Int):=om;have a1:fsz ((2 * V:Nat):Int) ((2 * K:Nat):Int)=true:=by simp only[fsz,qB,decide_eq_true_eq];omega
 have a2:((2 * K * (2 * V):Nat):Int)=((2 * V:Nat):Int) * ((2 * K:Nat):Int):=by rw[jG];exact qI _ _
 have a3:((K * V:Nat):Int)=(V:Int) * (K:Int):=by rw[jG];exact qI _ _
 simp only[Sc.fmd,a1,e1,e2,ly,lu,lv,a2,a3,decide_true,Bool.and_self]
theorem rows_in{W R X Y w h L:Nat}(hp:L=W * R)(hx:X+w≤W)(hy:Y+h≤R):∀ k,k<h→Y * W+X+k * W+w≤L:=fun k hk=>by have h1:(Y+k+1) * W≤R * W:=Nat.mul_le_mul_right _ om;rw[qY,qY,Nat.one_mul]at h1;rw[hp,jG W R];omega
theorem zs5{f:Fm}(h:fvd f=true):∃ A B:Nat,1≤A∧A≤4∧1≤B∧B≤4∧f.w=((16 * A:Nat):Int)∧f.h=((16 * B:Nat):Int)∧f.y.length=16 * A * (16 * B)∧f.u.length=8 * A * (8 * B)∧f.v.length=8 * A * (8 * B):=by
 obtain⟨w,ht,y,u,v⟩:=f;simp only[fvd,fmd,qB,decide_eq_true_eq]at h;obtain⟨⟨hs,hy,hu,hv⟩,hw,hh⟩:=h;obtain⟨g1,g2,g3,g4,g5,g6⟩:=zvD hs;obtain⟨A,hA⟩:∃ A:Nat,(w / 16).toNat=A:=⟨_,rfl⟩;obtain⟨B,hB⟩:∃ B:Nat,(ht / 16).toNat=B:=⟨_,rfl⟩;have e1:w=((16 * A:Nat):Int):=om;have e2:ht=((16 * B:Nat):Int):=om;have e3:w / 2=((8 * A:Nat):Int):=om;have e4:ht / 2=((8 * B:Nat):Int):=om;rw[e3,e4]at hu hv;rw[e1,e2]at hy;refine⟨A,B,om,om,om,om,e1,e2,?_,?_,?_⟩
 ·exact jE.1 (hy.trans (qI _ _).symm)
 ·exact jE.1 (hu.trans (qI _ _).symm)
 ·exact jE.1 (hv.trans (qI _ _).symm)
theorem F16.fmd{f:Fm}(h:F16 f):fmd f=true:=by have:=h.fvd;unfold Sc.fvd at this;rw[qB]at this;exact this.1
theorem F16.c{f:Fm}(h:F16 f):fmc f=[.int .i64 16,.int .i64 16,.slice (bs f.y) 256 false,.slice (bs f.u) 64 false,.slice (bs f.v) 64 false]:=by unfold fmc;rw[h.w,h.h,h.ly,h.lu,h.lv]
theorem zxh(b:Bool):zhq Tryz.prog 149 [(0,.int .i64 2),(1,.agg [.bool true,.bool b])]=some (.agg (mbc ⟨2,true,b,false,false,0,0,0,0,0,0,0,0,0,0,0,0,0,false,false,false,false,false,false,zl384⟩)):=by cases b<;>kernel_rfl
attribute [go_sem high] zxh
def v1(m:Mb)(d:Nat):Int:=if d=0 then m.va else m.ve
def v2(m:Mb)(d:Nat):Int:=if d=0 then m.vb else m.vf
def v3(m:Mb)(d:Nat):Int:=if d=0 then m.vc else m.vg
def v4(m:Mb)(d:Nat):Int:=if d=0 then m.vd else m.vh
def s1(m:Mb)(d:Nat):Int:=if d=0 then m.sa else m.sc
def s2(m:Mb)(d:Nat):Int:=if d=0 then m.sb else m.sd
def us(m:Mb)(d:Nat):Bool:=if d=0 then m.ua else m.ub
structure PrOk(m:Mb):Prop where
 u:m.ua=true∨m.ub=true
 f:∀ d,us m d=true→m.fp=true→(s1 m d=0∨s1 m d=1)∧(s2 m d=0∨s2 m d=1)∧vrg (v1 m d) (v2 m d)=true∧vrg (v3 m d) (v4 m d)=true
theorem zwO{s:Sq}{p:Pi}(hv:zH s p=true):∃ A B:Nat,(1≤A∧A≤4)∧(1≤B∧B≤4)∧s.w=((16 * A:Nat):Int)∧hgt s p=((16 * B:Nat):Int)∧zS s p=(B:Int)∧(p.st=3→s.h=((16 * B:Nat):Int))∧(p.st≠3→s.h=((32 * B:Nat):Int)∧s.il=true)∧(1≤p.st∧p.st≤3)∧(1≤p.ty∧p.ty≤3):=by
 have hr:=zb8 hv;have hv':=hv;unfold zH at hv;simp only[qB,jA,beq_iff_eq]at hv;obtain⟨⟨hq,hc⟩,hi⟩:=hv;unfold za6 vsz mbs at hq;simp only[qB,jA,beq_iff_eq,decide_eq_true_eq,Bool.not_eq_true']at hq;unfold zf1 at hc;simp only[qB,decide_eq_true_eq]at hc;have h1:s.w%16=0:=by have:=hq.1.1.1;rw[←zgP _ _ om];simp_all
 have h2:s.h%16=0:=by have:=hq.1.1.2;rw[←zgP _ _ om];simp_all
 have h3:s.il=true→s.h%32=0:=fun e=>by
  rcases hq.1.2 with h|h
  ·rw[e]at h;cases h
  ·rw[←zgP _ _ om];exact h
 have e1:s.h.tdiv 16=s.h / 16:=za7 _ _ om;have e2:s.h.tdiv 32=s.h / 32:=za7 _ _ om;have e3:s.h.tdiv 2=s.h / 2:=za7 _ _ om;have hst:p.st≠3→s.il=true:=fun h=>by
  rcases hi with h'|h'
  ·exact h'
  ·exact absurd h'.1.1 h
 by_cases h:p.st=3
 ·refine⟨(s.w / 16).toNat,(s.h / 16).toNat,om,om,om,?_,?_,fun _=>om,fun h'=>absurd h h',om,om⟩
  ·unfold hgt;rw[if_pos h];omega
  ·unfold zS;rw[if_pos hv',if_pos h,e1];omega
 ·have h32:=h3 (hst h);refine⟨(s.w / 16).toNat,(s.h / 32).toNat,om,om,om,?_,?_,fun h'=>absurd h' h,fun _=>⟨om,hst h⟩,om,om⟩
  ·unfold hgt;rw[if_neg h,e3];omega
  ·unfold zS;rw[if_pos hv',if_neg h,e2];omega
def mOr(f:Fm)(w h:Int):Bool:=decide (f.w=0)||(fmd f&&(decide (f.w=w)&&decide (f.h=h)))
def zxe(s:Sq)(p:Pi)(pa fu fi:Fm)(b:Bool):Int:=if(zdq s p b&&(mOr pa s.w s.h&&(mOr fu s.w s.h&&mOr fi s.w (s.h.tdiv 2))))=true then(if((!decide (p.ty=1)&&decide (pa.w=0))||((decide (p.ty=3)&&decide (fu.w=0))||(decide (p.ty=2)&&(b&&decide (fi.w=0)))))=true then 6 else 0)else 1
structure Gok(A B:Nat)(f:Fm):Prop where
 w:f.w=((16 * A:Nat):Int)
 h:f.h=((16 * B:Nat):Int)
 ra:1≤A∧A≤4
 rb:1≤B∧B≤4
 ly:f.y.length=16 * A * (16 * B)
 lu:f.u.length=8 * A * (8 * B)
 lv:f.v.length=8 * A * (8 * B)
theorem Gok.of{f:Fm}(h:fvd f=true):∃ A B:Nat,Gok A B f:=by obtain⟨A,B,a1,a2,b1,b2,ew,eh,ly,lu,lv⟩:=zs5 h;exact⟨A,B,ew,eh,⟨a1,a2⟩,⟨b1,b2⟩,ly,lu,lv⟩
theorem Gok.fvd{A B:Nat}{f:Fm}(h:Gok A B f):Sc.fvd f=true:=by
 obtain⟨w,ht,y,u,v⟩:=f;obtain⟨hw,hh,ra,rb,ly,lu,lv⟩:=h;simp only at hw hh ly lu lv;subst hw hh;have e1:((16 * A:Nat):Int) / 2=((8 * A:Nat):Int):=om;have e2:((16 * B:Nat):Int) / 2=((8 * B:Nat):Int):=om;have a1:fsz ((16 * A:Nat):Int) ((16 * B:Nat):Int)=true:=by simp only[fsz,qB,decide_eq_true_eq];omega
 have a2:((16 * A * (16 * B):Nat):Int)=((16 * A:Nat):Int) * ((16 * B:Nat):Int):=qI _ _;have a3:((8 * A * (8 * B):Nat):Int)=((8 * A:Nat):Int) * ((8 * B:Nat):Int):=qI _ _;unfold Sc.fvd Sc.fmd;simp only[a1,e1,e2,ly,lu,lv,a2,a3,decide_true,Bool.and_self,qJ,qB,decide_eq_true_eq];omega
structure DecOk(s:Sq)(p:Pi)(pa fu fi:Fm)(b:Bool)(A B:Nat):Prop where
 hv:zH s p=true
 hb:b=true→p.st≠3
 ra:1≤A∧A≤4
 rb:1≤B∧B≤4
 w:s.w=((16 * A:Nat):Int)
 g:hgt s p=((16 * B:Nat):Int)
 r:zS s p=(B:Int)
 h3:p.st=3→s.h=((16 * B:Nat):Int)
 h4:p.st≠3→s.h=((32 * B:Nat):Int)∧s.il=true
 st:1≤p.st∧p.st≤3
 ty:1≤p.ty∧p.ty≤3
 mp:mOr pa s.w s.h=true
 mf:mOr fu s.w s.h=true
 mi:mOr fi s.w (s.h.tdiv 2)=true
 zp:p.ty≠1→pa.w≠0
 zf:p.ty=3→fu.w≠0
 zi:p.ty=2→b=true→fi.w≠0
theorem DecOk.of{s:Sq}{p:Pi}{pa fu fi:Fm}{b:Bool}(h:zxe s p pa fu fi b=0):∃ A B,DecOk s p pa fu fi b A B:=by
 unfold zxe at h;split at h
 ·rename_i hc;simp only[qB]at hc;obtain⟨hf,m1,m2,m3⟩:=hc;unfold zdq at hf;rw[qB]at hf;obtain⟨hv,hb⟩:=hf;obtain⟨A,B,a1,b1,ew,eh,er,e3,e4,st,ty⟩:=zwO hv;split at h
  ·cases h
  rename_i hn;simp only[jA,qB,Bool.not_eq_true',decide_eq_true_eq,decide_eq_false_iff_not]at hn;refine⟨A,B,hv,fun e=> ?_,a1,b1,ew,eh,er,e3,e4,st,ty,m1,m2,m3,fun e1 e2=>hn (.inl ⟨e1,e2⟩),fun e1 e2=>hn (.inr (.inl ⟨e1,e2⟩)),fun e1 e2 e3=>hn (.inr (.inr ⟨e1,e2,e3⟩))⟩;rw[e]at hb;simpa using hb
 ·cases h
theorem DecOk.vc{s:Sq}{p:Pi}{pa fu fi:Fm}{b:Bool}{A B:Nat}(h:DecOk s p pa fu fi b A B):vcx (cxP s p b)=true:=by
 unfold vcx cxP;have:=h.st;have:=h.ty;simp only[qB,decide_eq_true_eq];refine⟨om,om,om,om,?_⟩;split
 ·rename_i h3;cases b with
  | false=>rfl
  | true=>exact absurd h3 (h.hb rfl)
 ·rename_i h3;exact(h.h4 h3).2
structure Cdd where
 p:Pi
 U:List (List UInt8)
 us:List (Int×List UInt8)
structure Sho where
 fr:Fm
 f:Int
 l:Int
 ty:Int
 ok:Bool
 fi:Int
 tf:Bool
def zdd(x:It):Cdd:=⟨x.p,x.U,x.us⟩
def tw(H:za)(i j:Nat)(A B:Blk):za:=(H.set i A).set j B
theorem zoY(H:za)(i j:Nat)(A B:Blk)(h:i<H.length∧i≠j):(tw H i j A B)[i]? =some A:=by unfold tw;rw[qT om];simp[h.1]
theorem zuz(H:za)(i j:Nat)(A B:Blk)(h:j<H.length):(tw H i j A B)[j]? =some B:=by unfold tw;simp[h]
theorem zoX(H:za)(i j:Nat)(A B:Blk):(tw H i j A B).length=H.length:=by simp[tw]
theorem zoV(H:za)(i j:Nat)(A B C D:Blk)(h:i≠j):tw (tw H i j A B) i j C D=tw H i j C D:=by unfold tw;rw[qG _ _ (by omega:i≠j),qP,qG _ _ (by omega:j≠i),qP]
theorem zcV{H:za}{i:Nat}{A:Blk}(h:H[i]? =some A):H.set i A=H:=by
 apply List.ext_getElem?;intro j;rw[List.getElem?_set];split
 ·rename_i e;subst e;split
  ·exact h.symm
  ·rename_i hn;exact absurd (qA.1 h).1 hn
 ·rfl
theorem zoW{H:za}{i j:Nat}{A B:Blk}(hA:∀ x∈A.cells,Scoped H.length x)(hB:∀ x∈B.cells,Scoped H.length x)(h:HSc H):HSc (tw H i j A B):=HSc.set (HSc.set h hA) (by rw[List.length_set];exact hB)
theorem zhK{α:Type}(enc:α→List PV)(N r:Nat)(v:PV)(hr:r<N)(f:α→α):∀(l:List α) (k:Nat),k<l.length→(∀ x∈l,(enc x).length=N)→(∀ x∈l,enc (f x)=(enc x).set r v)→(l.flatMap enc).set (k * N+r) v=(l.modify k f).flatMap enc
 | [],k,hk,_,_=>by simp at hk
 | x::l,0,_,h1,h2=>by
  have e1:=h1 x qV;rw[qM,Nat.zero_mul,Nat.zero_add,qS _ _ om,List.modify_zero_cons,qM,h2 x qV]
 | x::l,k+1,hk,h1,h2=>by have e1:=h1 x qV;have ih:=zhK enc N r v hr f l k (by simpa using hk) (fun y hy=>h1 y (jI _ hy)) (fun y hy=>h2 y (jI _ hy));rw[qM,qE _ _ (by rw[e1,qY];omega),List.modify_succ_cons,qM,←ih,e1];congr 2;rw[qY];omega
def zn(e:Ent):List PV:=.int .i64 e.1.f:: .int .i64 e.1.l:: .int .i64 e.1.ty:: .int .i64 e.1.pa:: .int .i64 e.1.fu:: .int .i64 e.1.sh::(sqc e.2.1++pic e.2.2)
def dpB(j:Nat)(d:Dp):Blk:=⟨113,0,[.msl j (d.en.length * 147) 0 d.en.length 147 true,.int .i64 d.old,.int .i64 d.new,.bool d.wt,.int .i64 d.lk,.int .i64 d.sh]⟩
def enB(es:List Ent):Blk:=⟨71,es.length * 147,es.flatMap zn⟩
structure DpOk(d:Dp)(m:Nat):Prop where
 sq:∀ e∈d.en,SqL e.2.1
 n:d.en.length≤m
 sh:0≤d.sh∧d.sh≤d.en.length
 lk:0≤d.lk∧d.lk≤2
 new: -1≤d.new∧d.new<d.en.length
 old: -1≤d.old∧d.old<d.en.length
 wt:d.wt=true→0≤d.new
theorem zam(e:Ent)(h:SqL e.2.1):(zn e).length=147:=by simp only[zn,qO,qC,zB _ h,pic,qQ]
theorem zfU{es:List Ent}(h:∀ e∈es,SqL e.2.1):(es.flatMap zn).length=es.length * 147:=zaW zn 147 es fun e he=>zam e (h e he)
theorem zvM{es:List Ent}(h:∀ e∈es,SqL e.2.1)(n:Nat)(hn:n<es.length)(v:Int):(es.flatMap zn).set (n * 147+5) (.int .i64 v)=(es.modify n (zM v)).flatMap zn:=zhK zn 147 5 (.int .i64 v) om (zM v) es n hn (fun e he=>zam e (h e he)) fun e _=>rfl
structure DpH(H:za)(i j:Nat)(d:Dp):Prop where
 gi:H[i]? =some (dpB j d)
 gj:H[j]? =some (enB d.en)
 ne:i≠j
theorem zwn(H:za)(i j:Nat)(d:Dp)(B:Blk)(hil:i<H.length)(hne:i≠j):(tw H i j (dpB j d) B)[i]? =some ⟨113,0,[.msl j (d.en.length * 147) 0 d.en.length 147 true,.int .i64 d.old,.int .i64 d.new,.bool d.wt,.int .i64 d.lk,.int .i64 d.sh]⟩:=zoY _ _ _ _ _ ⟨hil,hne⟩
theorem show_ok(d:Dp)(n:Nat)(i j:Nat)(H:za)(h:DpH H i j d)(hd:DpOk d 1000000)(hn:n<d.en.length)(hs:d.sh<1000000):CallOk Tryz.prog 105 [.ptr i 0 0,.int .i64 (n:Int)] H (.tup []) (tw H i j (dpB j (d.show n)) (enB (d.show n).en)):=by obtain⟨hi,hj,hne⟩:=h;unfold dpB at hi;unfold enB at hj;have hil:i<H.length:=(qA.1 hi).1;have hjl:j<H.length:=(qA.1 hj).1;have hln:=zfU hd.sq;have hji:∀ B,(H.set j B)[i]? =H[i]? :=fun B=>qT om;have hsh:=hd.sh;have hset:=zvM hd.sq n hn d.sh;have hnn:=hd.n;refine CallOk.go Tryz.func105 Tryz.ntmps105 Tryz.results105 ?_;(repeat refine PW.seq ?_);refine PW.drawi [j] [(7,[0]),(13,[0]),(14,[0]),(15,[0])] [] [] mix kr (by simp<;>omega) fun K hK=> ?_;refine sqx (nq2 hi (nq2 hj (nq2 hln hset))) ?_;refine hK _ _ ?_;clear hK K;refine PW.g (nq2 hji hi) ?_;refine⟨_,rfl,.inl ⟨rfl,?_⟩⟩;unfold tw dpB enB Dp.show;rw[qG _ _ hne,Int.toNat_natCast];simp only[qL]
theorem Dp.show_ok{d:Dp}{m n:Nat}(hd:DpOk d m)(hs:d.sh<d.en.length):DpOk (d.show n) m:=by
 obtain⟨h1,h2,h3,h4,h5,h6,h7⟩:=hd;refine⟨fun e he=> ?_,?_,?_,h4,?_,?_,h7⟩
 ·simp only[Dp.show]at he;obtain⟨k,hk,rfl⟩:=List.getElem_of_mem he;rw[List.getElem_modify];rw[qL]at hk;have h0:=h1 d.en[k] (List.getElem_mem hk);split
  ·exact h0
  ·exact h0
 all_goals simp only[Dp.show,qL]
 ·exact h2
 ·omega
 ·exact h5
 ·exact h6
structure DpG(d:Dp)(m:Nat):Prop where
 ok:DpOk d m
 cnt:d.sh+(if d.wt then 1 else 0)≤d.en.length
theorem zq8(d:Dp):d.flush.sh=d.sh+if d.wt then 1 else 0:=by
 unfold Dp.flush;split
 ·rfl
 ·omega
theorem ziy(d:Dp):d.flush.en.length=d.en.length:=by
 unfold Dp.flush;split
 ·simp[Dp.show]
 ·rfl
theorem zff{d:Dp}{m:Nat}(h:DpG d m):DpG d.flush m∧d.flush.sh+0≤d.en.length:=by
 obtain⟨hd,hc⟩:=h;unfold Dp.flush;by_cases hw:d.wt=true
 ·rw[if_pos hw]at hc ⊢;have h7:=hd.wt hw;obtain⟨n,hn⟩:∃ n:Nat,d.new=(n:Int):=⟨d.new.toNat,om⟩;rw[hn];obtain⟨q1,q2,q3,q4,q5,q6,q7⟩:=Dp.show_ok (n:=n) hd om;refine⟨⟨⟨q1,q2,q3,q4,q5,q6,fun h=>by cases h⟩,?_⟩,?_⟩
  ·simp only[Dp.show,qL,Bool.false_eq_true,if_false];omega
  ·simp only[Dp.show];omega
 ·rw[if_neg hw]at hc ⊢;exact⟨⟨hd,by rw[if_neg hw];omega⟩,om⟩
theorem zhI(d:Dp)(i j:Nat)(H:za)(h:DpH H i j d)(hd:DpG d 1000000):CallOk Tryz.prog 51 [.ptr i 0 0] H (.tup []) (tw H i j (dpB j d.flush) (enB d.flush.en)):=by
 have h':=h;obtain⟨hi,hj,hne⟩:=h;have hil:i<H.length:=(qA.1 hi).1;have hjl:j<H.length:=(qA.1 hj).1;have hw:=hd.ok.wt;have hcn:=hd.cnt;have hnew:=hd.ok.new;have hnn:=hd.ok.n;unfold dpB at hi;generalize hr:d.flush=r;unfold Dp.flush at hr;refine CallOk.go Tryz.func51 Tryz.ntmps51 Tryz.results51 ?_;refine PW.g hi ?_;refine PW.c (fun h=> ?_) (fun h=> ?_)
 ·obtain⟨n,hn⟩:∃ n:Nat,d.new=(n:Int):=⟨d.new.toNat,by have:=hw h;omega⟩;rw[if_pos h]at hr hcn;have sok:=show_ok d n i j H h' hd.ok om om;have g0:=zwn H i j (d.show n) (enB (d.show n).en) hil hne;rw[hn]at hi hr;generalize d.show n=d' at *;refine PW.f (fun K k=>by simp(disch:=omega) only[go_sem,↓reduceIte,reduceCtorEq,hi];refine VCx.call (sok) rfl ?_;simp(disch:=omega) only[go_sem,↓reduceIte,reduceCtorEq];exact k) ?_;refine PW.g g0 ?_;refine⟨_,rfl,.inl ⟨rfl,?_⟩⟩;subst hr;unfold tw dpB;rw[qG _ _ hne,qP,qG _ _ (by omega:j≠i)]
 ·rw[if_neg (by rw[h];simp)]at hr;subst hr;refine PW.skip ?_;refine⟨_,rfl,.inl ⟨rfl,?_⟩⟩;unfold tw;rw[zcV h'.gi,zcV h'.gj]
theorem zgO(H K:za)(i j:Nat)(A B:Blk)(hi:i<H.length)(hj:j<H.length):tw (H++K) i j A B=tw H i j A B++K:=by unfold tw;rw[qS _ _ hi,qS _ _ (by rw[List.length_set];exact hj)]
theorem zre(n j:Nat)(d:Dp)(h:j<n):∀ x∈(dpB j d).cells,Scoped n x:=fun x hx=>by
 simp only[dpB,jD,List.not_mem_nil,or_false]at hx;rcases hx with rfl|rfl|rfl|rfl|rfl|rfl
 ·exact .msl h
 ·exact .int _ _
 ·exact .int _ _
 ·exact .bool _
 ·exact .int _ _
 ·exact .int _ _
theorem zbx(n:Nat)(es:List Ent):∀ x∈(enB es).cells,Scoped n x:=fun x hx=>by
 obtain⟨e,_,hx⟩:=List.mem_flatMap.1 hx;simp only[zn,jD,qK]at hx;rcases hx with rfl|rfl|rfl|rfl|rfl|rfl|hx|hx
 ·exact .int _ _
 ·exact .int _ _
 ·exact .int _ _
 ·exact .int _ _
 ·exact .int _ _
 ·exact .int _ _
 ·exact zV _ _ x hx
 ·exact zmT _ _ x hx
theorem zjI(H K:za)(i j:Nat)(d:Dp)(hi:i<H.length)(hj:j<H.length):Fin H (.tup []) (tw H i j (dpB j d) (enB d.en)) (.tup []) (tw (H++K) i j (dpB j d) (enB d.en)):=by rw[zgO _ _ _ _ _ _ hi hj];exact Fin.cut rfl (by rw[zoX]) (zoW (zre _ _ _ hj) (zbx _ _)) (.id (.tup sp))
theorem znh(es:List Ent)(e:Ent):(es++[e]).flatMap zn=es.flatMap zn++zn e:=by rw[List.flatMap_append,qM,List.flatMap_nil,qZ]
theorem DpH.two{H:za}{i j:Nat}{d:Dp}(h:DpH H i j d)(K:za)(d':Dp):DpH (tw (H++K) i j (dpB j d') (enB d'.en)) i j d':=by have hil:i<H.length:=(qA.1 h.gi).1;have hjl:j<H.length:=(qA.1 h.gj).1;exact⟨zoY _ _ _ _ _ ⟨by rw[qC];omega,h.ne⟩,zuz _ _ _ _ _ (by rw[qC];omega),h.ne⟩
theorem DpH.self{H:za}{i j:Nat}{d:Dp}(h:DpH H i j d)(K:za):tw (H++K) i j (dpB j d) (enB d.en)=H++K:=by have hil:i<H.length:=(qA.1 h.gi).1;have hjl:j<H.length:=(qA.1 h.gj).1;rw[zgO _ _ _ _ _ _ hil hjl];unfold tw;rw[zcV h.gi,zcV h.gj]
theorem zs6{d:Dp}{f:FmY}{m:Nat}(h:DpG d m)(hf:SqL f.sq):DpG (d.frame f) (m+1):=by
 obtain⟨⟨h1,h2,h3,h4,h5,h6,h7⟩,h8⟩:=h;have hsq:∀{pa fu:Int},∀ e∈d.en++[fmE f pa fu],SqL e.2.1:=fun e he=>by
  rcases qK.1 he with he|he
  ·exact h1 e he
  ·rw[qU]at he;rw[he];exact hf
 unfold Dp.frame;split
 ·split
  ·exact⟨⟨h1,om,h3,h4,h5,h6,h7⟩,h8⟩
  ·have:=Dp.show_ok (d:={ d with en:=d.en++[fmE f d.old d.new] }) (m:=m+1) (n:=d.en.length) ⟨hsq,by simp;omega,by simp;omega,h4,by simp;omega,by simp;omega,h7⟩ (by simp;split at h8<;>omega);refine⟨this,?_⟩;simp only[Dp.show,qL,qC,qO,qQ];show d.sh+1+(if d.wt=true then(1:Int)else 0)≤_;split at h8
   ·rename_i hw;rw[if_pos hw];omega
   ·rename_i hw;rw[if_neg hw];omega
 ·split
  ·exact⟨⟨h1,om,h3,h4,h5,h6,h7⟩,h8⟩
  ·obtain⟨⟨⟨q1,q2,q3,q4,q5,q6,q7⟩,q8⟩,q9⟩:=zff (d:={ d with en:=d.en++[fmE f d.new (-1)] }) (m:=m+1) ⟨⟨hsq,by simp;omega,by simp;omega,h4,by simp;omega,by simp;omega,h7⟩,by simp;split at h8<;>omega⟩;have hl:=ziy { d with en:=d.en++[fmE f d.new (-1)] };have hs:(Dp.flush { d with en:=d.en++[fmE f d.new (-1)] }).sh=d.sh+if d.wt then 1 else 0:=zq8 _
   have hf:=za1 { d with en:=d.en++[fmE f d.new (-1)] };generalize Dp.flush { d with en:=d.en++[fmE f d.new (-1)] }=e at *;simp only[qC,qO,qQ]at hl q9;obtain⟨f1,f2,f3,f4⟩:=hf;rw[f3]at q8;simp only[Bool.false_eq_true,if_false]at q8;have hcn:e.sh≤d.en.length:=by rw[hs];exact h8
   refine⟨⟨q1,q2,q3,?_,?_,?_,?_⟩,?_⟩
   ·simp only;omega
   ·simp only;omega
   ·simp only;omega
   ·intro _;simp only;omega
   ·simp only[if_true];omega
def zx(f:FmY):List PV:=.int .i64 f.f:: .int .i64 f.l::(sqc f.sq++(pic f.hd++[.bool f.rs,.int .i64 f.lk]))
theorem zb1(f:FmY)(h:SqL f.sq):(zx f).length=145:=by simp only[zx,qO,qC,zB _ h,pic,qQ]
theorem zw4(f:FmY)(h:SqL f.sq):qN 135 (qF 2 (zx f))=sqc f.sq:=by show qN 135 (sqc f.sq++_)=_;exact List.take_left' (zB _ h)
theorem zt9(f:FmY)(h:SqL f.sq)(n:Nat):qF (137+n) (zx f)=qF n (pic f.hd++[.bool f.rs,.int .i64 f.lk]):=by
 have e:qF 137 (zx f)=pic f.hd++[.bool f.rs,.int .i64 f.lk]:=by show qF 135 (sqc f.sq++_)=_;exact List.drop_left' (zB _ h)
 rw[←jB,e]
theorem zw5(f:FmY)(h:SqL f.sq):qN 6 (qF 137 (zx f))=pic f.hd:=by have:=zt9 f h 0;rw[this];rfl
theorem zmf(f:FmY)(h:SqL f.sq)(n:Nat):(zx f)[137+n]? =(pic f.hd++[.bool f.rs,.int .i64 f.lk])[n]? :=by have:=congrArg (·[0]?) (zt9 f h n);simpa using this
theorem zw7(f:FmY):(zx f)[0]? =some (.int .i64 f.f):=rfl
theorem zw6(f:FmY):(zx f)[1]? =some (.int .i64 f.l):=rfl
theorem zvG(f:FmY)(h:SqL f.sq):(zx f)[137]? =some (.int .i64 f.hd.ty):=zmf f h 0
theorem zvH(f:FmY)(h:SqL f.sq):(zx f)[143]? =some (.bool f.rs):=zmf f h 6
theorem zvI(f:FmY)(h:SqL f.sq):(zx f)[144]? =some (.int .i64 f.lk):=zmf f h 7
theorem zaI(s:Sq):(sqc s).all PV.cell=true:=by simp[sqc,bs,PV.cell]
theorem zce(f:FmY):(zx f).all PV.cell=true:=by simp[zx,sqc,bs,pic,PV.cell]
set_option maxHeartbeats 2000000 in
set_option maxRecDepth 100000 in
theorem zte(d:Dp)(f:FmY)(i j:Nat)(H:za)(h:DpH H i j d)(hd:DpG d 900000)(hf:SqL f.sq):CallOk Tryz.prog 52 [.ptr i 0 0,.agg (zx f)] H (.tup []) (tw H i j (dpB j (d.frame f)) (enB (d.frame f).en)):=by
 have h':=h;obtain⟨hi,hj,hne⟩:=h;have hil:i<H.length:=(qA.1 hi).1;have hjl:j<H.length:=(qA.1 hj).1;have hi1:∀ K,(H++K)[i]? =H[i]? :=fun K=>jC hil;have hj1:∀ K,(H++K)[j]? =H[j]? :=fun K=>jC hjl;unfold dpB at hi;unfold enB at hj;have f0:=zb1 f hf;have f1:=zw4 f hf;have f2:=zw5 f hf;have f3:=zw7 f;have f4:=zw6 f;have f5:=zvG f hf;have f6:=zce f;have g1:=zB f.sq hf;generalize hr:d.frame f=r;unfold Dp.frame at hr;refine CallOk.go Tryz.func52 Tryz.ntmps52 Tryz.results52 ?_;refine PW.g f6 ?_;have g2:=zaI f.sq;have g3:∀ X,qN 135 (sqc f.sq++X)=sqc f.sq:=fun X=>List.take_left' g1;have g4:∀ X n,qF (135+n) (sqc f.sq++X)=qF n X:=fun X n=>by rw[←jB,List.drop_left' g1]
 have g5:∀ X,qF 141 (sqc f.sq++X)=qF 6 X:=fun X=>g4 X 6;have g6:(pic f.hd).length=6:=rfl;have g7:(pic f.hd).all PV.cell=true:=rfl;refine PW.f (fun K k=>by simp(disch:=omega) only[go_sem,↓reduceIte,reduceCtorEq,f0,f1,f2,g1,g2,g3,g5,g6,g7,qC,qZ];exact k) ?_;(repeat refine PW.seq ?_);refine PW.drawi [H.length+1] [(4,[0]),(12,[0]),(23,[0])] [] [] mix kr (by simp<;>omega) fun K hK=> ?_;refine sqx (nq2 hi1 (nq2 hi (nq2 f0 (nq2 f3 (nq2 f4 f5))))) ?_;refine hK _ _ ?_;clear hK K;refine PW.g (nq2 hi1 (nq2 hj1 (nq2 hi hj))) ?_;refine PW.e ?_;have hln:=zfU hd.ok.sq;have hnn:=hd.ok.n;have hsh:=hd.ok.sh;have hlk:=hd.ok.lk;have hcn:=hd.cnt;have hji:∀ K B,((H++K).set j B)[i]? =H[i]? :=fun K B=>by rw[qT om];exact hi1 K
 have hjj:∀ K B,((H++K).set j B)[j]? =some B:=fun K B=>by rw[List.getElem?_set_self (by simp;omega)]
 refine PW.c (fun h=> ?_) (fun h=> ?_)
 ·have ht:f.hd.ty=3:=by simpa using h
  rw[if_pos ht]at hr;suffices hrest:∀ b,(b=true↔(d.lk≠0∨d.old= -1∨d.new= -1))→PW Tryz.prog _ _ [(0,.ptr i 0 0),(3,.ptr H.length 0 0),(4,.ptr (H.length+1) 0 0),(5,.int .i64 (d.en.length:Int)),(51,.bool b)] (H++[⟨118,0,zx f⟩,⟨71,0,zn (fmE f d.new (-1))⟩]) _ by
   (repeat refine PW.seq ?_);refine PW.rg rfl fun K hK=> ?_;simp(disch:=omega) only[go_sem,↓reduceIte,reduceCtorEq,hi1,hi];(repeat'((first|refine zh ?_ ?_|refine ze ?_ ?_|refine zZ ?_ ?_|refine VOh_cond ?_ ?_|refine zY ?_ ?_|refine And.intro ?_ ?_)<;>intro h<;>(try simp only[nqb]at h)<;>simp(disch:=omega) only[go_sem,↓reduceIte,reduceCtorEq,hi1,hi,h]));all_goals(refine hK _ _ ?_;clear hK K)
   all_goals(refine PW.at [0,3,4,5,51] (hrest _ ?_) rfl rfl)
   all_goals(simp_all;try omega)
  intro b hb;refine PW.c (fun h=> ?_) (fun h=> ?_)
  ·subst h;rw[if_pos (hb.1 rfl)]at hr;subst hr;refine PW.ret ⟨_,rfl,?_⟩;have e7:=zjI H [⟨118,0,zx f⟩,⟨71,0,zn (fmE f d.new (-1))⟩] i j d hil hjl;rw[h'.self]at e7;exact e7
  ·subst h;rw[if_neg (fun h=>by have:=hb.2 h;cases this)]at hr;refine PW.skip ?_;obtain⟨E,hE⟩:∃ E,E=zn (fmE f d.old d.new):=⟨_,rfl⟩;have el:(PV.int .i64 f.f::PV.int .i64 f.l::PV.int .i64 f.hd.ty::PV.int .i64 d.old::PV.int .i64 d.new::PV.int .i64 0::(sqc f.sq++pic f.hd))=E:=hE.symm;have e1:E.length=147:=by rw[hE];exact zam _ hf
   have e2:qN 147 E=E:=jF om;have e3:E.all PV.cell=true:=by rw[hE];simp[zn,zaI,PV.cell,pic]
   (repeat refine PW.seq ?_);refine PW.drawi [H.length+1] [(4,[0]),(60,[0]),(61,[0]),(62,[0]),(63,[0])] [] [] mix kr (by simp<;>omega) fun K hK=> ?_;simp(disch:=omega) only[go_sem,↓reduceIte,reduceCtorEq,hi1,hi,zn,fmE,el];refine hK _ _ ?_;clear hK K;(repeat refine PW.seq ?_);refine PW.drawi [j,i] [(68,[0]),(71,[0]),(0,[1]),(64,[1]),(65,[1]),(66,[1]),(67,[1]),(72,[1]),(73,[1])] [] [] mix kr (by simp<;>omega) fun K hK=> ?_;refine sqx (nq2 hi1 (nq2 hj1 (nq2 hi (nq2 hj (nq2 hji (nq2 hjj (nq2 hln (nq2 e1 (nq2 e2 e3))))))))) ?_;refine hK _ _ ?_;clear hK K;have hX:=h'.two [⟨118,0,zx f⟩,⟨71,0,E⟩] { d with en:=d.en++[fmE f d.old d.new] };have hXg:(d.en++[fmE f d.old d.new]).length=d.en.length+1:=by simp
   have hsq:∀ e∈d.en++[fmE f d.old d.new],SqL e.2.1:=fun e he=>by
    rcases qK.1 he with he|he
    ·exact hd.ok.sq e he
    ·rw[qU]at he;rw[he];exact hf
   have sok:=show_ok { d with en:=d.en++[fmE f d.old d.new] } d.en.length i j _ hX ⟨hsq,by simp;omega,by simp;omega,hlk,by have:=hd.ok.new;simp;omega,by have:=hd.ok.old;simp;omega,hd.ok.wt⟩ sp (by show d.sh<_;omega);rw[zoV _ _ _ _ _ _ _ hne]at sok;have e7:=zjI H [⟨118,0,zx f⟩,⟨71,0,E⟩] i j (Dp.show { d with en:=d.en++[fmE f d.old d.new] } d.en.length) hil hjl;rw[hr]at e7 sok;refine PW.at [0,5] (?_:PW _ _ _ [(0,.ptr i 0 0),(5,.int .i64 (d.en.length:Int))] (tw (H++[⟨118,0,zx f⟩,⟨71,0,E⟩]) i j (dpB j { d with en:=d.en++[fmE f d.old d.new] }) (enB (d.en++[fmE f d.old d.new]))) _) rfl ?_
   ·generalize tw (H++[⟨118,0,zx f⟩,⟨71,0,E⟩]) i j (dpB j { d with en:=d.en++[fmE f d.old d.new] }) (enB (d.en++[fmE f d.old d.new]))=X at *;refine PW.f (fun K k=>by simp(disch:=omega) only[go_sem,↓reduceIte,reduceCtorEq];refine VCx.call (sok) rfl ?_;simp(disch:=omega) only[go_sem,↓reduceIte,reduceCtorEq];exact k) ?_;exact PW.ret ⟨_,rfl,e7⟩
   ·unfold tw;rw[qG _ _ hne];have hl9:(List.flatMap zn d.en++E).length=(d.en.length+1) * 147:=by rw[qC,hln,e1];omega
    unfold dpB enB;simp only[znh,hXg,←hE,hl9]
 ·have ht:¬ f.hd.ty=3:=by simpa using h
  rw[if_neg ht]at hr;refine PW.skip ?_;suffices hrest:∀ b,(b=true↔(f.hd.ty=2∧d.new= -1))→PW Tryz.prog _ _ [(0,.ptr i 0 0),(3,.ptr H.length 0 0),(4,.ptr (H.length+1) 0 0),(5,.int .i64 (d.en.length:Int)),(87,.bool b)] (H++[⟨118,0,zx f⟩,⟨71,0,zn (fmE f d.new (-1))⟩]) _ by
   (repeat refine PW.seq ?_);refine PW.rg rfl fun K hK=> ?_;simp(disch:=omega) only[go_sem,↓reduceIte,reduceCtorEq,hi1,hi,zn,fmE];(repeat'((first|refine zh ?_ ?_|refine ze ?_ ?_|refine zZ ?_ ?_|refine VOh_cond ?_ ?_|refine zY ?_ ?_|refine And.intro ?_ ?_)<;>intro h<;>(try simp only[nqb]at h)<;>simp(disch:=omega) only[go_sem,↓reduceIte,reduceCtorEq,hi1,hi,h]));all_goals(refine hK _ _ ?_;clear hK K)
   all_goals(refine PW.at [0,3,4,5,87] (hrest _ ?_) rfl rfl)
   all_goals(simp_all;try omega)
  intro b hb;refine PW.c (fun h=> ?_) (fun h=> ?_)
  ·subst h;rw[if_pos (hb.1 rfl)]at hr;subst hr;refine PW.ret ⟨_,rfl,?_⟩;have e7:=zjI H [⟨118,0,zx f⟩,⟨71,0,zn (fmE f d.new (-1))⟩] i j d hil hjl;rw[h'.self]at e7;exact e7
  ·subst h;rw[if_neg (fun h=>by have:=hb.2 h;cases this)]at hr;refine PW.skip ?_;obtain⟨E,hE⟩:∃ E,E=zn (fmE f d.new (-1)):=⟨_,rfl⟩;have e1:E.length=147:=by rw[hE];exact zam _ hf
   have e2:qN 147 E=E:=jF om;have e3:E.all PV.cell=true:=by rw[hE];simp[zn,zaI,PV.cell,pic]
   rw[←hE];(repeat refine PW.seq ?_);refine PW.drawi [j,i] [(92,[0]),(95,[0]),(0,[1]),(88,[1]),(89,[1]),(90,[1]),(91,[1]),(96,[1]),(97,[1])] [] [] mix kr (by simp<;>omega) fun K hK=> ?_;refine sqx (nq2 hi1 (nq2 hj1 (nq2 hi (nq2 hj (nq2 hji (nq2 hjj (nq2 hln (nq2 e1 (nq2 e2 e3))))))))) ?_;refine hK _ _ ?_;clear hK K;have hX:=h'.two [⟨118,0,zx f⟩,⟨71,0,E⟩] { d with en:=d.en++[fmE f d.new (-1)] };have hXg:(d.en++[fmE f d.new (-1)]).length=d.en.length+1:=by simp
   have hsq:∀ e∈d.en++[fmE f d.new (-1)],SqL e.2.1:=fun e he=>by
    rcases qK.1 he with he|he
    ·exact hd.ok.sq e he
    ·rw[qU]at he;rw[he];exact hf
   have hG:DpG { d with en:=d.en++[fmE f d.new (-1)] } 1000000:=⟨⟨hsq,by simp;omega,by simp;omega,hlk,by have:=hd.ok.new;simp;omega,by have:=hd.ok.old;simp;omega,hd.ok.wt⟩,by simp;omega⟩;have fok:=zhI _ i j _ hX hG;have ff:=za1 { d with en:=d.en++[fmE f d.new (-1)] };rw[zoV _ _ _ _ _ _ _ hne]at fok;refine PW.at [0,5] (?_:PW _ _ _ [(0,.ptr i 0 0),(5,.int .i64 (d.en.length:Int))] (tw (H++[⟨118,0,zx f⟩,⟨71,0,E⟩]) i j (dpB j { d with en:=d.en++[fmE f d.new (-1)] }) (enB (d.en++[fmE f d.new (-1)]))) _) rfl ?_
   ·have e7:=fun e=>zjI H [⟨118,0,zx f⟩,⟨71,0,E⟩] i j e hil hjl;have hlk2:=(zff hG).1.ok.lk;generalize Dp.flush { d with en:=d.en++[fmE f d.new (-1)] }=e at *;have g0:=zwn (H++[⟨118,0,zx f⟩,⟨71,0,E⟩]) i j e (enB e.en) (by rw[qC];omega) hne;have g1':∀ B,(tw (H++[⟨118,0,zx f⟩,⟨71,0,E⟩]) i j (dpB j e) (enB e.en)).set i B=tw (H++[⟨118,0,zx f⟩,⟨71,0,E⟩]) i j B (enB e.en):=fun B=>by unfold tw;rw[qG _ _ (by omega:j≠i),qP]
    have g2':∀ B B',(tw (H++[⟨118,0,zx f⟩,⟨71,0,E⟩]) i j B B').set i=fun B2=>tw (H++[⟨118,0,zx f⟩,⟨71,0,E⟩]) i j B2 B':=fun B B'=>by funext B2;unfold tw;rw[qG _ _ (by omega:j≠i),qP]
    have g3':∀ B B',(tw (H++[⟨118,0,zx f⟩,⟨71,0,E⟩]) i j B B')[i]? =some B:=fun B B'=>zoY _ _ _ _ _ ⟨by rw[qC];omega,hne⟩;generalize tw (H++[⟨118,0,zx f⟩,⟨71,0,E⟩]) i j (dpB j { d with en:=d.en++[fmE f d.new (-1)] }) (enB (d.en++[fmE f d.new (-1)]))=X at *;refine PW.f (fun K k=>by simp(disch:=omega) only[go_sem,↓reduceIte,reduceCtorEq];refine VCx.call (fok) rfl ?_;simp(disch:=omega) only[go_sem,↓reduceIte,reduceCtorEq];exact k) ?_;refine PW.f (fun K k=>by simp(disch:=omega) only[go_sem,↓reduceIte,reduceCtorEq,g0,g2',g3'];exact k) ?_;refine PW.f (fun K k=>by simp(disch:=omega) only[go_sem,↓reduceIte,reduceCtorEq,g3',g2'];exact k) ?_;have hm:(if e.lk - 1>0 then e.lk - 1 else 0)=max 0 (e.lk - 1):=by split<;>omega
    subst hr;refine⟨_,rfl,?_⟩;rw[hm];exact e7 _
   ·unfold tw;rw[qG _ _ hne];have hl9:(List.flatMap zn d.en++E).length=(d.en.length+1) * 147:=by rw[qC,hln,e1];omega
    unfold dpB enB;simp only[znh,hXg,←hE,hl9]
theorem zlv(U:List (List UInt8))(k:Nat)(hk:k<U.length):(U.flatMap zh0)[k]? =some (.slice (bs U[k]) U[k].length false):=by have:=zcf zh0 1 U k 0 hk (fun _ _=>rfl) om;rwa[Nat.mul_one,Nat.add_zero]at this
theorem zoO(U:List (List UInt8)):(U.flatMap zh0).length=U.length:=by rw[zaW zh0 1 U fun _ _=>rfl,Nat.mul_one]
def itL(l:List It):List PV:=l.flatMap itc
theorem zak(l:List It)(h:∀ x∈l,SqOk x.s):(itL l).length=l.length * 148:=zaW itc 148 l fun x hx=>zbZ x (h x hx)
theorem zfO(l:List It)(h:∀ x∈l,SqOk x.s)(k:Nat)(hk:k<l.length):qN 148 (qF (k * 148) (itL l))=itc l[k]:=zc8 itc 148 l k hk fun x hx=>zbZ x (h x hx)
theorem zR(l:List It)(h:∀ x∈l,SqOk x.s)(k r:Nat)(hk:k<l.length)(hr:r<148):(itL l)[k * 148+r]? =(itc l[k])[r]? :=zcf itc 148 l k r hk (fun x hx=>zbZ x (h x hx)) hr
theorem zcw(n:Nat)(l:List It):∀ x∈itL l,Scoped n x:=fun x hx=>by obtain⟨u,_,hx⟩:=List.mem_flatMap.1 hx;exact zjx _ _ x hx
theorem zc6(l:List It)(h:∀ x∈l,SqOk x.s)(k r n:Nat)(hk:k<l.length)(hr:r+n≤148):qN n (qF (k * 148+r) (itL l))=qN n (qF r (itc l[k])):=by rw[←zfO l h k hk,List.drop_take,List.take_take,Nat.min_eq_left om,jB]
def zsH(x:It):Bool:= !(decide (5000<x.pad)&&decide (x.pad≤1048576))
def ltI(x:It):Bool:=(zsH x&&(decide (x.U.length≤4)&&decide (x.us.length≤8)))&&((x.U.all fun u=>decide (u.length≤400))&&(x.us.all fun u=>decide (u.2.length≤3000)))
def ltB(l:List It):Bool:=decide (l.length≤60)&&l.all ltI
theorem zcN{α:Type}(f:α→Bool)(l:List α)(j:Nat)(h:j<l.length):(l.drop j).all f=(f l[j]&&(l.drop (j+1)).all f):=by rw[List.drop_eq_getElem_cons h];rfl
set_option maxHeartbeats 8000000 in
set_option maxRecDepth 100000 in
theorem zsV(l:List It)(f:Bool)(H:za)(hs:∀ x∈l,SqOk x.s):CallOk Tryz.prog 8 [.slice (itL l) l.length f] H (.bool (ltB l)) H:=by
 have ln:=zak l hs;have fin:∀(b:Bool) (K:za),Fin H (.bool b) H (.bool b) (H++K):=fun b K=>Fin.base (.id (.bool _));have fin0:∀(b:Bool),Fin H (.bool b) H (.bool b) H:=fun b=>Fin.now;unfold ltB;refine CallOk.go Tryz.func8 Tryz.ntmps8 Tryz.results8 ?_;refine PW.e ?_;refine PW.e ?_;by_cases h60:l.length≤60;rotate_left
 ·have d1:decide ((60:Int)<(l.length:Int))=true:=decide_eq_true om;refine PW.c (fun h=> ?_) (fun h=> ?_);rotate_left
  ·rw[d1]at h;cases h
  rw[decide_eq_false h60,qH];refine PW.e ?_;refine PW.v (.bool false) ?_;exact fin0 _
 have d1:decide ((60:Int)<(l.length:Int))=false:=decide_eq_false om;refine PW.c (fun h=> ?_) (fun h=> ?_)
 ·rw[d1]at h;cases h
 rw[decide_eq_true h60,qJ];refine PW.skip ?_;refine PW.e ?_;refine PW.l ?_;suffices hl1:∀ j:Nat,j≤l.length→(l.drop j).all ltI=l.all ltI→PL Tryz.prog _ _ [(0,.slice (itL l) l.length f),(3,.int .i64 (j:Int))] H _ by exact PL.at [0,3] (hl1 0 om rfl) rfl rfl
 intro j hj hf;induction hd:l.length - j using qR generalizing j with
 | _ d ih=>
  refine PL.round ?_;refine PW.e ?_;refine PW.c (fun h=> ?_) (fun h=> ?_)
  ·have hjl:j<l.length:=ot h;have ip:=zR l hs j 147 hjl om;have hc:=zc6 l hs j 139 8 hjl om;have hx:=hs l[j] (List.getElem_mem hjl);rw[zd5 _ hx]at ip;rw[zk4 _ hx]at hc;rw[zcN ltI l j hjl]at hf;have hnext:=fun hf=>ih (l.length - (j+1)) om (j+1) om hf rfl;generalize l[j]=x at *;refine PW.skip ?_;refine PW.b ?_;have c1:=zlf x.p x.U x.us;have c2:=zjL x.p x.U x.us;have c6:(cdc x.p x.U x.us)[6]? =some (usr x.U):=rfl;have c7:=zud x.p x.U x.us;have c8:qF 8 (cdc x.p x.U x.us)=[]:=rfl;have ul:=zoO x.U;have ql:=zcr x.us;refine PW.f (fun K k=>by simp(disch:=omega) only[go_sem,↓reduceIte,reduceCtorEq,ln,hc,c1,c2,c8,qZ];exact k) ?_;suffices hrest:PW Tryz.prog _ _ [(0,.slice (itL l) l.length f),(3,.int .i64 (j:Int)),(4,.ptr H.length 0 0),(46,.bool (!(zsH x&&(decide (x.U.length≤4)&&decide (x.us.length≤8)))))] (H++[⟨39,0,cdc x.p x.U x.us⟩]) _ by
    unfold zsH at hrest;by_cases p1:5000<x.pad
    ·have e1:decide (5000<x.pad)=true:=decide_eq_true p1;by_cases p2:x.pad≤1048576
     ·have e2:decide (x.pad≤1048576)=true:=decide_eq_true p2;rw[e1,e2]at hrest;refine PW.g (nq2 ln (nq2 ip (nq2 e1 e2))) ?_;exact PW.at [0,3,4,46] hrest rfl rfl
     ·have e2:decide (x.pad≤1048576)=false:=decide_eq_false p2;rw[e1,e2]at hrest;by_cases p3:x.U.length≤4
      ·have e3:decide ((4:Int)<(x.U.length:Int))=false:=decide_eq_false om;have e4:decide ((8:Int)<(x.us.length:Int))= !decide (x.us.length≤8):=by rw[Bool.eq_iff_iff];simp;omega
       rw[decide_eq_true p3]at hrest;refine PW.f (fun K k=>by simp(disch:=omega) only[go_sem,↓reduceIte,reduceCtorEq,ln,ip,e1,e2,c2,c6,usr,c7,e3,e4];exact k) ?_;exact PW.at [0,3,4,46] hrest (by simp[kp,slot,Nat.beq]) rfl
      ·have e3:decide ((4:Int)<(x.U.length:Int))=true:=decide_eq_true om;rw[decide_eq_false p3]at hrest;refine PW.f (fun K k=>by simp(disch:=omega) only[go_sem,↓reduceIte,reduceCtorEq,ln,ip,e1,e2,c2,c6,usr,c7,e3];exact k) ?_;exact PW.at [0,3,4,46] hrest (by simp[kp,slot,Nat.beq]) rfl
    ·have e1:decide (5000<x.pad)=false:=decide_eq_false p1;rw[e1]at hrest;by_cases p3:x.U.length≤4
     ·have e3:decide ((4:Int)<(x.U.length:Int))=false:=decide_eq_false om;have e4:decide ((8:Int)<(x.us.length:Int))= !decide (x.us.length≤8):=by rw[Bool.eq_iff_iff];simp;omega
      rw[decide_eq_true p3]at hrest;refine PW.f (fun K k=>by simp(disch:=omega) only[go_sem,↓reduceIte,reduceCtorEq,ln,ip,e1,c2,c6,usr,c7,e3,e4];exact k) ?_;exact PW.at [0,3,4,46] hrest (by simp[kp,slot,Nat.beq]) rfl
     ·have e3:decide ((4:Int)<(x.U.length:Int))=true:=decide_eq_true om;rw[decide_eq_false p3]at hrest;refine PW.f (fun K k=>by simp(disch:=omega) only[go_sem,↓reduceIte,reduceCtorEq,ln,ip,e1,c2,c6,usr,c7,e3];exact k) ?_;exact PW.at [0,3,4,46] hrest (by simp[kp,slot,Nat.beq]) rfl
   unfold ltI at hf;cases hA:(zsH x&&(decide (x.U.length≤4)&&decide (x.us.length≤8)))with
   | false=>
    rw[hA,qH,qH]at hf;refine PW.t ?_;refine PW.e ?_;refine PW.v (.bool false) ?_;rw[show(l.all ltI)=false from hf.symm];exact fin _ _
   | true=>
    rw[hA,qJ]at hf;simp only[qB,decide_eq_true_eq]at hA;obtain⟨_,hU4,hu8⟩:=hA;refine PW.us ?_;refine PW.e ?_;refine PW.l ?_;suffices hl2:∀ k:Nat,k≤x.U.length→((((x.U.drop k).all fun u=>decide (u.length≤400))&&(x.us.all fun u=>decide (u.2.length≤3000)))&&(l.drop (j+1)).all ltI)=l.all ltI→PL Tryz.prog _ _ [(0,.slice (itL l) l.length f),(3,.int .i64 (j:Int)),(4,.ptr H.length 0 0),(5,.int .i64 (k:Int))] (H++[⟨39,0,cdc x.p x.U x.us⟩]) _ by exact PL.at [0,3,4,5] (hl2 0 om hf) rfl rfl
    clear hf;intro k hk hf;induction hd2:x.U.length - k using qR generalizing k with
    | _ d2 ih2=>
     refine PL.round ?_;refine PW.f (fun K k=>by simp(disch:=omega) only[go_sem,↓reduceIte,reduceCtorEq,c2,c6,usr];exact k) ?_;refine PW.c (fun h=> ?_) (fun h=> ?_)
     ·have hkU:k<x.U.length:=ot h;have ua:=zlv x.U k hkU;rw[zcN _ x.U k hkU]at hf;have hn2:=fun hf=>ih2 (x.U.length - (k+1)) om (k+1) om hf rfl;generalize x.U[k]=u at *;refine PW.skip ?_;refine PW.b ?_;by_cases h4:u.length≤400
      ·have d4:decide ((400:Int)<(u.length:Int))=false:=decide_eq_false om;rw[decide_eq_true h4,qJ]at hf;refine PW.f (fun K k=>by simp(disch:=omega) only[go_sem,↓reduceIte,reduceCtorEq,c2,c6,usr,ua,ul,d4];exact k) ?_;refine PW.us ?_;refine PW.e ?_;exact PL.at [0,3,4,5] (hn2 hf) rfl rfl
      ·have d4:decide ((400:Int)<(u.length:Int))=true:=decide_eq_true om;rw[decide_eq_false h4,qH,qH,qH]at hf;refine PW.f (fun K k=>by simp(disch:=omega) only[go_sem,↓reduceIte,reduceCtorEq,c2,c6,usr,ua,ul,d4];exact k) ?_;refine PW.t ?_;refine PW.e ?_;refine PW.v (.bool false) ?_;rw[←hf];exact fin _ _
     ·have hkU:k=x.U.length:=ofF h;rw[hkU,qX,List.all_nil,qJ]at hf;refine PW.exit ?_;clear ih2;refine PW.e ?_;refine PW.l ?_;suffices hl3:∀ k:Nat,k≤x.us.length→(((x.us.drop k).all fun u=>decide (u.2.length≤3000))&&(l.drop (j+1)).all ltI)=l.all ltI→PL Tryz.prog _ _ [(0,.slice (itL l) l.length f),(3,.int .i64 (j:Int)),(4,.ptr H.length 0 0),(6,.int .i64 (k:Int))] (H++[⟨39,0,cdc x.p x.U x.us⟩]) _ by exact PL.at [0,3,4,6] (hl3 0 om hf) rfl rfl
      clear hf hkU hk h hd2;intro k hk hf;induction hd3:x.us.length - k using qR generalizing k with
      | _ d3 ih3=>
       refine PL.round ?_;refine PW.g (nq2 c2 c7) ?_;refine PW.c (fun h=> ?_) (fun h=> ?_)
       ·have hku:k<x.us.length:=ot h;have u1:=uq_1 x.us k hku;rw[zcN _ x.us k hku]at hf;have hn3:=fun hf=>ih3 (x.us.length - (k+1)) om (k+1) om hf rfl;generalize x.us[k]=u at *;refine PW.skip ?_;refine PW.b ?_;by_cases h4:u.2.length≤3000
        ·have d4:decide ((3000:Int)<(u.2.length:Int))=false:=decide_eq_false om;rw[decide_eq_true h4,qJ]at hf;refine PW.g (nq2 c2 (nq2 c7 (nq2 u1 (nq2 ql d4)))) ?_;refine PW.us ?_;refine PW.e ?_;exact PL.at [0,3,4,6] (hn3 hf) rfl rfl
        ·have d4:decide ((3000:Int)<(u.2.length:Int))=true:=decide_eq_true om;rw[decide_eq_false h4,qH,qH]at hf;refine PW.g (nq2 c2 (nq2 c7 (nq2 u1 (nq2 ql d4)))) ?_;refine PW.t ?_;refine PW.e ?_;refine PW.v (.bool false) ?_;rw[←hf];exact fin _ _
       ·have hku:k=x.us.length:=ofF h;rw[hku,qX,List.all_nil,qJ]at hf;refine PW.exit ?_;refine PW.e ?_;refine PL.keep [0,3] ?_;refine PL.view (Vs.trim (F1:=[(0,.slice (itL l) l.length f),(3,.int .i64 ((j+1:Nat):Int))]) (H1:=H) (fun h=>h) (Nat.le_refl _) rfl ?_) (hnext hf);exact⟨.id (zl (zcw _ _)),.id (.int _ _),trivial⟩
  ·have hjl:j=l.length:=ofF h;subst hjl;rw[qX]at hf;rw[←hf];refine PW.exit ?_;refine PW.e ?_;refine PW.v (.bool true) ?_;exact fin0 _
end Go.Proofs.YtpjlfoficnpfoaaGreatDoor.Sc
