/-
  Parts of the proof, put together in one text. No condition.
-/
import Derived.Test.YtjgmdlcjbgiekaaGreatDoorQ08
import Derived.ProofKit
import Derived.OpenShut
import Derived.ChangeOld
import Derived.Carry
namespace Go.Proofs.YtjgmdlcjbgiekaaGreatDoor.Pm
set_option linter.all false
open Go.RowKit Go.ChangeShapes Go.WideShapes
inductive Shp (P:Program):TypeId→List PV→Prop where
 | bool {t:TypeId} (b:Bool) (ht:P.underlying t=some .bool):Shp P t [.bool b]
 | int {t:TypeId} {k:IntKind} {n:Int} (ht:P.underlying t=some (.int k)) (hw:(Lit.int k n).wf=true):Shp P t [.int k n]
 | str {t:TypeId} {s:List UInt8} (ht:P.underlying t=some .string) (hs:s.length≤maxLen):Shp P t [.str s]
 | slice {t e:TypeId} {pss:List (List PV)} (ht:P.underlying t=some (.slice e)) (hm:pss.length≤maxLen) (h:∀ ps∈pss,Shp P e ps):Shp P t [.slice pss.flatten pss.length false]
 | struct {t:TypeId} {fs:Array Field} {pss:List (List PV)} (ht:P.underlying t=some (.struct fs)) (hl:pss.length=fs.size) (h:∀ (i:Nat) (f:Field) (ps:List PV),fs[i]? =some f→pss[i]? =some ps→Shp P f.type ps):Shp P t pss.flatten
 | array {t e:TypeId} {n:Nat} {pss:List (List PV)} (ht:P.underlying t=some (.array n e)) (hl:pss.length=n) (h:∀ ps∈pss,Shp P e ps):Shp P t pss.flatten
def zn6 (P:Program):List Field→Nat→Option Nat
 | [],off=>some off
 | f::r,off=>if f.offset=off then zn6 P r (off+P.cellsOf f.type) else none
def zcs (P:Program):Nat→TypeId→Bool
 | 0,_=>false
 | n+1,t=>match P.underlying t with
  | some .bool|some (.int _)|some .string=>true
  | some (.slice e)=>decide (0<P.cellsOf e)&&zcs P n e
  | some (.array m e)=>decide (P.cellsOf t=m * P.cellsOf e)&&zcs P n e
  | some (.struct fs)=>decide (zn6 P fs.toList 0=some (P.cellsOf t))&&fs.toList.all fun f=>zcs P n f.type
  | _=>false
def Ctx.start (W:World):Ctx:=⟨W.heap.size,fun b o=>W.cell? ⟨b,o,none⟩,[],[],[],0⟩
theorem WRel.start (W:World) (hg:Glob (Ctx.start W).M):WRel (Ctx.start W) [] W:=
 ⟨hg,Nat.le_refl _,Nat.zero_le _,fun _ _ _ h=>h,rfl,rfl,rfl,fun id k h=>by simp at h,fun id k h=>by simp at h,fun id k b h=>by simp at h,fun id b h=>by simp [Ctx.start] at h,fun i j b h=>by simp [Ctx.start] at h,fun i j b h=>by simp [Ctx.start] at h⟩
theorem VRels.nil' {C:Ctx}:VRels C [] []:=⟨rfl,fun j x u h=>by simp at h⟩
theorem VRels.append {C:Ctx} {a b:List PV} {u v:List Value} (h:VRels C a u) (k:VRels C b v):VRels C (a++b) (u++v):=by
 refine ⟨by simp [h.1,k.1],fun j x w hx hw=> ?_⟩
 rcases Nat.lt_or_ge j a.length with hj|hj
 ·rw [List.getElem?_append_left hj] at hx
  rw [List.getElem?_append_left (by rw [h.1];exact hj)] at hw
  exact h.2 j x w hx hw
 ·rw [List.getElem?_append_right hj] at hx
  rw [List.getElem?_append_right (by rw [h.1];exact hj),h.1] at hw
  exact k.2 _ x w hx hw
def zts (P:Program) (W:World) (t:TypeId) (cs:List Value) (ps:List PV):Prop:=Shp P t ps∧(∀ p∈ps,p.cell=true)∧VRels (Ctx.start W) ps cs
variable {H:Type} {enc:TypeId×Value→H} {P:Program} {W:World}
theorem zfv {ts:List TypeId}:∀ (parts:List (List Value)),parts.length=ts.length→(∀ (i:Nat) (t:TypeId) (cs:List Value),ts[i]? =some t→parts[i]? =some cs→∃ ps,zts P W t cs ps)→
  ∃ pss:List (List PV),pss.length=ts.length∧(∀ (i:Nat) (t:TypeId) (ps:List PV),ts[i]? =some t→pss[i]? =some ps→Shp P t ps)∧(∀ p∈pss.flatten,p.cell=true)∧VRels (Ctx.start W) pss.flatten parts.flatten:=by
 induction ts with
 | nil=>
  intro parts hl _
  have:parts=[]:=by cases parts<;>simp_all
  subst this
  exact ⟨[],rfl,fun i t ps h=>by simp at h,fun p hp=>by simp at hp,VRels.nil'⟩
 | cons t ts ih=>
  intro parts hl h
  cases parts with
  | nil=>simp at hl
  | cons c parts=>
   obtain ⟨ps,h1,h2,h3⟩:=h 0 t c rfl rfl
   obtain ⟨pss,g1,g2,g3,g4⟩:=ih parts (by simpa using hl) (fun i t' cs' ht hc=>h (i+1) t' cs' (by simpa using ht) (by simpa using hc))
   refine ⟨ps::pss,by simp [g1],?_,?_,?_⟩
   ·intro i t' ps' ht hp
    cases i with
    | zero=>simp at ht hp;subst ht hp;exact h1
    | succ i=>exact g2 i t' ps' (by simpa using ht) (by simpa using hp)
   ·intro p hp
    rw [List.flatten_cons,List.mem_append] at hp
    exact hp.elim (h2 p) (g3 p)
   ·rw [List.flatten_cons,List.flatten_cons]
    exact h3.append g4
theorem zhs:∀ (fs:List Field) (off tot:Nat) (cs:List Value),zn6 P fs off=some tot→cs.length=tot→cs.drop off=(fs.map fun f=>(cs.drop f.offset).take (P.cellsOf f.type)).flatten
 | [],off,tot,cs,h,hl=>by
  simp [zn6] at h
  subst h
  simp [hl]
 | f::r,off,tot,cs,h,hl=>by
  simp only [zn6] at h
  split at h
  ·rename_i ho
   have:=zhs r _ tot cs h hl
   rw [List.map_cons,List.flatten_cons,←this,ho,←List.drop_drop,List.take_append_drop]
  ·cases h
theorem zlp (sz:Nat):∀ (n:Nat) (cs:List Value),cs.length=n * sz→cs=((List.range n).map fun i=>(cs.drop (i * sz)).take sz).flatten:=by
 intro n cs hl
 have key:∀ m,m≤n→cs.take (m * sz)=((List.range m).map fun i=>(cs.drop (i * sz)).take sz).flatten:=by
  intro m
  induction m with
  | zero=>intro _;simp
  | succ m ih=>
   intro hm
   rw [List.range_succ,List.map_append,List.flatten_append,←ih (by omega),Nat.succ_mul,List.take_add]
   simp
 rw [←key n (Nat.le_refl _),←hl,List.take_length]
theorem znQ:∀ (fuel n:Nat) (t:TypeId) (cs:List Value) (x:DataW H×List MemPlace),zcs P n t=true→DataW.trod enc P W 0 (fun _=>true) true fuel t cs=some x→∃ ps,zts P W t cs ps:=by
 intro fuel
 induction fuel with
 | zero=>intro n t cs x _ h;simp [DataW.trod] at h
 | succ fuel ih=>
  intro n t cs x hp h
  cases n with
  | zero=>simp [zcs] at hp
  | succ n=>
   unfold zcs at hp
   split at hp
   ·rename_i ht
    obtain ⟨b,rfl,_⟩:=DataW.trod_bool ht h
    exact ⟨[.bool b],.bool b ht,fun p hp=>by simp at hp;subst hp;rfl,VRels.append (a:=[.bool b]) (u:=[.bool b]) ⟨rfl,fun j x u hx hu=>by cases j<;>simp at hx hu;subst hx hu;exact .bool b⟩ VRels.nil'⟩
   ·rename_i k ht
    obtain ⟨m,rfl,_,hw⟩:=DataW.trod_int ht h
    exact ⟨[.int k m],.int ht hw,fun p hp=>by simp at hp;subst hp;rfl,⟨rfl,fun j x u hx hu=>by cases j<;>simp at hx hu;subst hx hu;exact .int k m⟩⟩
   ·rename_i ht
    obtain ⟨s,rfl,_,hw⟩:=DataW.trod_string ht h
    exact ⟨[.str s.data.toList],.str ht (by rw [Array.length_toList];exact hw),fun p hp=>by simp at hp;subst hp;rfl,⟨rfl,fun j x u hx hu=>by cases j<;>simp at hx hu;subst hx hu;exact .str s⟩⟩
   ·rename_i e ht
    simp only [Bool.and_eq_true,decide_eq_true_eq] at hp
    rcases DataW.trod_slice ht h with ⟨rfl,_⟩|⟨a,len,cap,elems,rest,m,hfm,rfl,rfl,hb,hlc,hm,hlen,hel,hsp,_⟩
    ·refine ⟨[.slice [] 0 false],Shp.slice (pss:=[]) ht (Nat.zero_le _) (fun ps hp=>by simp at hp),fun p hp=>by simp at hp;subst hp;rfl,⟨rfl,fun j x u hx hu=> ?_⟩⟩
     cases j<;>simp at hx hu
     subst hx hu
     exact .sliceN _ _
    ·injection hfm with hfm
     subst hfm
     have hcell:∀ i,i<cap→∃ cs' y,W.cells? 0 (a.add (i * P.cellsOf e)) (P.cellsOf e)=some cs'∧DataW.trod enc P W 0 (fun _=>true) true fuel e cs'=some y:=by
      intro i hi
      obtain ⟨hrl,hrest⟩:=hsp rfl
      have:∃ y,(W.cells? 0 (a.add (i * P.cellsOf e)) (P.cellsOf e)).bind (DataW.trod enc P W 0 (fun _=>true) true fuel e)=some y:=by
       rcases Nat.lt_or_ge i len with hil|hil
       ·exact ⟨elems[i]'(by omega),by rw [hel i hil];exact List.getElem?_eq_getElem (by omega)⟩
       ·have:=hrest (i - len) (by omega)
        rw [show len+(i - len)=i by omega] at this
        exact ⟨rest[i - len]'(by omega),by rw [this];exact List.getElem?_eq_getElem (by omega)⟩
      obtain ⟨y,hy⟩:=this
      obtain ⟨cs',h1,h2⟩:=Option.bind_eq_some_iff.1 hy
      exact ⟨cs',y,h1,h2⟩
     rcases Nat.eq_zero_or_pos cap with h0|h0
     ·subst h0
      obtain rfl:len=0:=by omega
      refine ⟨[.slice [] 0 false],Shp.slice (pss:=[]) ht (Nat.zero_le _) (fun ps hp=>by simp at hp),fun p hp=>by simp at hp;subst hp;rfl,⟨rfl,fun j x u hx hu=> ?_⟩⟩
      cases j<;>simp at hx hu
      subst hx hu
      exact .sliceN _ _
     ·have hspot:a=⟨a.block,a.off,none⟩:=by
       obtain ⟨cs',y,h1,_⟩:=hcell 0 h0
       have h2:=(World.cells?_some h1).2
       have h3:=h2.2 0 hp.1
       rw [Nat.zero_mul] at h3
       have h4:a.add 0=a:=by simp [Addr.add]
       rw [h4,h4,List.getElem?_eq_getElem (by omega)] at h3
       have:a.spot=none:=by
        unfold World.cell? at h3
        split at h3
        ·split at h3
         ·cases h3
         ·rename_i hs;simpa using hs
        ·cases h3
       cases a;simp at this;subst this;rfl
      have key:∀ m,m≤len→∃ (pss:List (List PV)) (us:List Value),pss.length=m∧us.length=m * P.cellsOf e∧(∀ ps∈pss,Shp P e ps)∧(∀ p∈pss.flatten,p.cell=true)∧VRels (Ctx.start W) pss.flatten us∧
        ∀ (j:Nat) (u:Value),us[j]? =some u→W.cell? ⟨a.block,a.off+j,none⟩=some u:=by
       intro m
       induction m with
       | zero=>intro _;exact ⟨[],[],rfl,by simp,fun ps hp=>by simp at hp,fun p hp=>by simp at hp,VRels.nil',fun j u hu=>by simp at hu⟩
       | succ m ihm=>
        intro hm'
        obtain ⟨pss,us,g1,g2,g3,g4,g5,g6⟩:=ihm (by omega)
        obtain ⟨cs',y,h1,h2⟩:=hcell m (by omega)
        obtain ⟨ps,k1,k2,k3⟩:=ih n e cs' y hp.2 h2
        obtain ⟨_,hcl,hcc⟩:=World.cells?_some h1
        refine ⟨pss++[ps],us++cs',by simp [g1],by simp [g2,hcl,Nat.succ_mul],?_,?_,?_,?_⟩
        ·intro q hq
         rcases List.mem_append.1 hq with hq|hq
         ·exact g3 q hq
         ·simp at hq;subst hq;exact k1
        ·intro p hq
         simp only [List.flatten_append,List.flatten_cons,List.flatten_nil,List.append_nil,List.mem_append] at hq
         exact hq.elim (g4 p) (k2 p)
        ·simp only [List.flatten_append,List.flatten_cons,List.flatten_nil,List.append_nil]
         exact g5.append k3
        ·intro j u hu
         rcases Nat.lt_or_ge j us.length with hj|hj
         ·rw [List.getElem?_append_left hj] at hu
          exact g6 j u hu
         ·rw [List.getElem?_append_right hj] at hu
          have hlt:=(List.getElem?_eq_some_iff.1 hu).1
          have:=hcc (j - us.length) (by omega)
          rw [hu,hspot,Addr.add_lit,Addr.add_lit] at this
          rw [←this]
          congr 2
          omega
      obtain ⟨pss,us,g1,g2,g3,g4,g5,g6⟩:=key len (Nat.le_refl _)
      refine ⟨[.slice pss.flatten pss.length false],Shp.slice ht (by omega) g3,fun p hp=>by simp at hp;subst hp;rfl,⟨rfl,fun j x u hx hu=> ?_⟩⟩
      cases j<;>simp at hx hu
      subst hx hu
      rw [hspot,←g1]
      exact .slice (us:=us) g5.1 g6 g4 g5.2 (by omega) hm (fun hf=>by cases hf)
   ·rename_i m e ht
    simp only [Bool.and_eq_true,decide_eq_true_eq] at hp
    obtain ⟨xs,m',hfm,_,hl,hxl,hx⟩:=DataW.trod_array ht h
    injection hfm with hfm
    subst hfm
    obtain ⟨pss,g1,g2,g3,g4⟩:=zfv (P:=P) (W:=W) (ts:=List.replicate m e) ((List.range m).map fun i=>(cs.drop (i * P.cellsOf e)).take (P.cellsOf e)) (by simp) (by
     intro i t' cs' ht' hc'
     have hi:i<m:=by
      have:=(List.getElem?_eq_some_iff.1 ht').1
      simpa using this
     simp [hi] at ht' hc'
     subst ht' hc'
     have:=hx i hi
     rw [List.getElem?_eq_getElem (by omega)] at this
     exact ih n e _ _ hp.2 this)
    rw [←zlp (P.cellsOf e) m cs (by rw [hl,hp.1])] at g4
    refine ⟨pss.flatten,.array ht (by simpa using g1) (fun ps hps=> ?_),g3,g4⟩
    obtain ⟨i,hi⟩:=List.getElem?_of_mem hps
    have hi':=(List.getElem?_eq_some_iff.1 hi).1
    have hi2:i<m:=by simp at g1;omega
    exact g2 i e ps (by simp [hi2]) hi
   ·rename_i fs ht
    simp only [Bool.and_eq_true,decide_eq_true_eq,List.all_eq_true] at hp
    obtain ⟨xs,m',hfm,_,hl,hxl,hx⟩:=DataW.trod_struct ht h
    injection hfm with hfm
    subst hfm
    obtain ⟨pss,g1,g2,g3,g4⟩:=zfv (P:=P) (W:=W) (ts:=fs.toList.map (·.type)) (fs.toList.map fun f=>(cs.drop f.offset).take (P.cellsOf f.type)) (by simp) (by
     intro i t' cs' ht' hc'
     simp only [List.getElem?_map,Option.map_eq_some_iff] at ht' hc'
     obtain ⟨f,hf,rfl⟩:=ht'
     obtain ⟨f',hf',rfl⟩:=hc'
     rw [hf] at hf'
     injection hf' with hf'
     subst hf'
     have hi:=(List.getElem?_eq_some_iff.1 hf).1
     have:=hx i f (by simpa using hf)
     rw [List.getElem?_eq_getElem (by simp at hi;omega)] at this
     exact ih n f.type _ _ (hp.2 f (List.mem_of_getElem? hf)) this)
    rw [←zhs fs.toList 0 _ cs hp.1 hl,List.drop_zero] at g4
    refine ⟨pss.flatten,.struct ht (by simpa using g1) (fun i f ps hf hps=>g2 i f.type ps (by simp;exact ⟨f,by simpa using hf,rfl⟩) hps),g3,g4⟩
   ·cases hp
def ArgShp (P:Program) (t:TypeId) (x:PV):Prop:=∃ ps,Shp P t ps∧((zci P t=true∧x= .agg ps)∨(zci P t=false∧ps=[x]))
def ArgsShp (P:Program):List TypeId→List PV→Prop
 | [],[]=>True
 | t::ts,x::xs=>ArgShp P t x∧ArgsShp P ts xs
 | _,_=>False
theorem zsG {t:TypeId} {v:Value} {d:DataW H} {p:List MemPlace} {r:Reach} {b0 n:Nat} (hn:zcs P n t=true) (hv:Value.okWide P W r b0 t v) (h:DataW.Trod enc P W 0 (fun _=>true) true t v d p):
  ∃ x,ArgShp P t x∧VRel (Ctx.start W) x v:=by
 obtain ⟨fuel,hf⟩:=h
 obtain ⟨ps,h1,h2,h3⟩:=znQ fuel n t _ _ hn hf
 have one:zci P t=false→(∀ cs,v≠.agg cs)→∃ x,ArgShp P t x∧VRel (Ctx.start W) x v:=by
  intro ha hna
  have hc:v.cells.toList=[v]:=by cases v<;>first|rfl|exact absurd rfl (hna _)
  rw [hc] at h3
  match ps,h3.1 with
  | [x],_=>exact ⟨x,⟨[x],h1,.inr ⟨ha,rfl⟩⟩,h3.2 0 x v rfl rfl⟩
 have many:zci P t=true→(∃ cs,v= .agg cs)→∃ x,ArgShp P t x∧VRel (Ctx.start W) x v:=by
  rintro ha ⟨cs,rfl⟩
  refine ⟨.agg ps,⟨ps,h1,.inl ⟨ha,rfl⟩⟩,?_⟩
  have:=VRel.agg (C:=Ctx.start W) (cs:=ps) (us:=cs.toList) h3.1 h2 h3.2
  simpa using this
 unfold zcs at hn
 split at hn
 ·cases hn
 split at hn
 ·rename_i ht;exact one (by simp [zci,ht]) (fun cs e=>by subst e;simp [Value.okWide,ht,Cell.okWide,Cell.ok] at hv)
 ·rename_i ht;exact one (by simp [zci,ht]) (fun cs e=>by subst e;simp [Value.okWide,ht,Cell.okWide,Cell.ok] at hv)
 ·rename_i ht;exact one (by simp [zci,ht]) (fun cs e=>by subst e;simp [Value.okWide,ht,Cell.okWide,Cell.ok] at hv)
 ·rename_i ht;exact one (by simp [zci,ht]) (fun cs e=>by subst e;simp [Value.okWide,ht,Cell.okWide,Cell.ok] at hv)
 ·rename_i ht;exact many (by simp [zci,ht]) (by simp only [Value.okWide,ht] at hv;obtain ⟨cs,h,_⟩:=hv;exact ⟨cs,h⟩)
 ·rename_i ht;exact many (by simp [zci,ht]) (by simp only [Value.okWide,ht] at hv;obtain ⟨cs,h,_⟩:=hv;exact ⟨cs,h⟩)
 ·cases hn
theorem zkd {r:Reach} {b0 n:Nat}:∀ {ts:List TypeId} {vs:List Value} {ds:List (DataW H)} {p:List MemPlace},(∀ t∈ts,zcs P n t=true)→(∀ (j:Nat) t v,ts[j]? =some t→vs[j]? =some v→Value.okWide P W r b0 t v)→
  DataW.TrodAll enc P W 0 (fun _=>true) true ts vs ds p→∃ xs,ArgsShp P ts xs∧VRels (Ctx.start W) xs vs
 | [],[],[],p,_,_,_=>⟨[],trivial,VRels.nil'⟩
 | t::ts,v::vs,d::ds,p,hn,hv,h=>by
  obtain ⟨p1,q1,h1,h2,_⟩:=h
  obtain ⟨x,a1,a2⟩:=zsG (hn t (List.mem_cons_self ..)) (hv 0 t v rfl rfl) h1
  obtain ⟨xs,b1,b2⟩:=zkd (fun t' ht=>hn t' (List.mem_cons_of_mem _ ht)) (fun j t' v' ht hv'=>hv (j+1) t' v' (by simpa using ht) (by simpa using hv')) h2
  exact ⟨x::xs,⟨a1,b1⟩,VRels.append (a:=[x]) (u:=[v]) ⟨rfl,fun j x' u hx hu=>by cases j<;>simp at hx hu;subst hx hu;exact a2⟩ b2⟩
 | [],[],_::_,_,_,_,h=>h.elim
 | [],_::_,_,_,_,_,h=>h.elim
 | _::_,[],_,_,_,_,h=>h.elim
 | _::_,_::_,[],_,_,_,h=>h.elim
theorem zhN {W':World} (hl:laidOutB P=true) (hb:Below W.heap.size W W'):∀ {ts:List TypeId} {vs:List Value} {ds:List (DataW H)} {p:List MemPlace},(∀ t∈ts,P.readableRec t=true∧t<P.types.size)→
  DataW.TrodAll enc P W 0 (fun _=>true) true ts vs ds p→DataW.TrodAll enc P W' 0 (fun b=>decide (b<W.heap.size)) true ts vs ds p
 | [],[],[],p,_,h=>h
 | t::ts,v::vs,d::ds,p,hr,h=>by
  obtain ⟨p1,q1,h1,h2,h3⟩:=h
  obtain ⟨r1,r2⟩:=hr t (List.mem_cons_self ..)
  refine ⟨p1,q1,Below.trod hl r1 r2 h1 hb ?_,zhN hl hb (fun t' ht=>hr t' (List.mem_cons_of_mem _ ht)) h2,h3⟩
  obtain ⟨m,hm⟩:=h1
  exact DataW.trod_lt m _ _ _ hm
 | [],[],_::_,_,_,h=>h.elim
 | [],_::_,_,_,_,h=>h.elim
 | _::_,[],_,_,_,h=>h.elim
 | _::_,_::_,[],_,_,h=>h.elim
theorem zpI {f:FuncId} {fn:Func} {s:ChangeSpec} {apart fresh handsOn:Bool} {r:Reach} {b0 n:Nat} {args:Array Value} {ds gs:List (DataW H)} {before:List MemPlace} {tb:TypeId}
  (hg:Glob (Ctx.start W).M) (hlaw:∀ xs,ArgsShp P fn.params.toList xs→CallOk P f xs [] (.bool true) [])
  (hl:laidOutB P=true) (hplain:fn.params.toList.all (zcs P n)=true) (hread:fn.params.toList.all (fun t=>P.readableRec t&&decide (t<P.types.size))=true)
  (hres:fn.resultTypes= #[tb]) (htb:P.underlying tb=some .bool) (hvars:s.vars=[])
  (hfn:∀ ds:List (DataW H),ds.length=fn.params.size→s.fn H ds={ results:=[.lit (.bool true)],args:=ds })
  (hval:∀ (j:Nat) t v,fn.params[j]? =some t→args[j]? =some v→Value.okWide P W r b0 t v)
  (hW:DataW.Whole enc P fn.params.toList s.vars apart W args.toList ds gs before):
  Calls P f args W fun e W'=>∃ v,e= .returned v∧s.post enc P fn apart fresh handsOn false W args v W':=by
 have hW':=hW
 obtain ⟨p,q,hA,hV,hpq,hfz,hnd⟩:=hW
 rw [hvars] at hV
 obtain ⟨rfl,rfl⟩:=trodVars_none hV
 obtain ⟨xs,x1,x2⟩:=zkd (n:=n) (List.all_eq_true.1 hplain) (fun j t v ht hv=>hval j t v (by simpa using ht) (by simpa using hv)) hA
 have hlen:ds.length=fn.params.size:=by
  have:∀ {ts:List TypeId} {vs:List Value} {ds:List (DataW H)} {p:List MemPlace},DataW.TrodAll enc P W 0 (fun _=>true) true ts vs ds p→ds.length=ts.length:=by
   intro ts
   induction ts with
   | nil=>intro vs ds p h;cases vs<;>cases ds<;>first|rfl|exact h.elim
   | cons t ts ih=>
    intro vs ds p h
    cases vs with
    | nil=>exact h.elim
    | cons v vs=>
     cases ds with
     | nil=>exact h.elim
     | cons d ds=>obtain ⟨_,_,_,h2,_⟩:=h;simp [ih h2]
  simpa using this hA
 have hc:=(hlaw xs x1).2 (Ctx.start W) args.toList W (WRel.start W hg) x2
 have hc:Calls P f args W fun e w'=>∃ C' u,CLe (Ctx.start W) C'∧WRel C' [] w'∧Below (Ctx.start W).B W w'∧e= .returned u∧VRel C' (.bool true) u:=by simpa using hc
 refine hc.mono fun e W' ⟨C',u,_,_,bel,he,hu⟩=> ?_
 cases hu
 refine ⟨_,he,ds,[],before,[],p,[],hW',?_,?_,?_,bel.frame _,fun h=>by cases h⟩
 ·rw [List.append_nil,hfn ds hlen,hres]
  exact trodAll_mk1 (shut_bool htb _)
 ·rw [List.append_nil,hfn ds hlen]
  exact zhN hl bel (fun t ht=>by have:=List.all_eq_true.1 hread t ht;simpa using this) hA
 ·rw [List.append_nil,hfn ds hlen,hvars]
  rfl
theorem Shp.of_bool {t:TypeId} {ps:List PV} (ht:P.underlying t=some .bool) (h:Shp P t ps):∃ b,ps=[.bool b]:=by
 cases h<;>simp_all
theorem Shp.of_int {t:TypeId} {k:IntKind} {ps:List PV} (ht:P.underlying t=some (.int k)) (h:Shp P t ps):∃ n,ps=[.int k n]∧(Lit.int k n).wf=true:=by
 cases h with
 | int ht' hw=>rw [ht] at ht';cases ht';exact ⟨_,rfl,hw⟩
 | _=>simp_all
theorem Shp.of_slice {t e:TypeId} {ps:List PV} (ht:P.underlying t=some (.slice e)) (h:Shp P t ps):∃ pss:List (List PV),ps=[.slice pss.flatten pss.length false]∧pss.length≤maxLen∧∀ q∈pss,Shp P e q:=by
 cases h with
 | slice ht' hm h=>rw [ht] at ht';cases ht';exact ⟨_,rfl,hm,h⟩
 | _=>simp_all
theorem Shp.of_struct {t:TypeId} {fs:Array Field} {ps:List PV} (ht:P.underlying t=some (.struct fs)) (h:Shp P t ps):
  ∃ pss:List (List PV),ps=pss.flatten∧pss.length=fs.size∧∀ (i:Nat) (f:Field) (ps:List PV),fs[i]? =some f→pss[i]? =some ps→Shp P f.type ps:=by
 cases h with
 | struct ht' hl h=>rw [ht] at ht';cases ht';exact ⟨_,rfl,hl,h⟩
 | _=>simp_all
theorem Shp.of_array {t e:TypeId} {n:Nat} {ps:List PV} (ht:P.underlying t=some (.array n e)) (h:Shp P t ps):∃ pss:List (List PV),ps=pss.flatten∧pss.length=n∧∀ q∈pss,Shp P e q:=by
 cases h with
 | array ht' hl h=>rw [ht] at ht';cases ht';exact ⟨_,rfl,hl,h⟩
 | _=>simp_all
theorem Shp.of_ints {t e:TypeId} {k:IntKind} {ps:List PV} (ht:P.underlying t=some (.slice e)) (he:P.underlying e=some (.int k)) (h:Shp P t ps):
  ∃ zs:List Int,ps=[.slice (zs.map (.int k)) zs.length false]∧zs.length≤maxLen∧∀ z∈zs,(Lit.int k z).wf=true:=by
 obtain ⟨pss,rfl,hm,h⟩:=h.of_slice ht
 have:∀ pss:List (List PV),(∀ q∈pss,Shp P e q)→∃ zs:List Int,pss.flatten=zs.map (.int k)∧zs.length=pss.length∧∀ z∈zs,(Lit.int k z).wf=true:=by
  intro pss
  induction pss with
  | nil=>intro _;exact ⟨[],rfl,rfl,fun z hz=>by simp at hz⟩
  | cons a r ih=>
   intro h
   obtain ⟨n,rfl,hw⟩:=(h a (List.mem_cons_self ..)).of_int he
   obtain ⟨zs,h1,h2,h3⟩:=ih (fun q hq=>h q (List.mem_cons_of_mem _ hq))
   exact ⟨n::zs,by simp [h1],by simp [h2],fun z hz=>by rcases List.mem_cons.1 hz with rfl|hz;exact hw;exact h3 z hz⟩
 obtain ⟨zs,h1,h2,h3⟩:=this pss h
 exact ⟨zs,by rw [h1,h2],by omega,h3⟩
theorem Shp.of_list {α:Type} {t e:TypeId} {ps:List PV} {enc:α→List PV} {good:α→Prop} (ht:P.underlying t=some (.slice e)) (he:∀ q,Shp P e q→∃ x,q=enc x∧good x) (h:Shp P t ps):
  ∃ xs:List α,ps=[.slice (xs.flatMap enc) xs.length false]∧xs.length≤maxLen∧∀ x∈xs,good x:=by
 obtain ⟨pss,rfl,hm,hq⟩:=h.of_slice ht
 have key:∀ pss:List (List PV),(∀ q∈pss,Shp P e q)→∃ xs:List α,pss=xs.map enc∧∀ x∈xs,good x:=by
  intro pss
  induction pss with
  | nil=>intro _;exact ⟨[],rfl,fun x hx=>by cases hx⟩
  | cons q r ih=>
   intro hq
   obtain ⟨x,hx,hg⟩:=he q (hq q (by simp))
   obtain ⟨xs,hxs,hgs⟩:=ih fun y hy=>hq y (by simp [hy])
   exact ⟨x::xs,by simp [hx,hxs],fun y hy=>by rcases List.mem_cons.1 hy with rfl|hy;exact hg;exact hgs y hy⟩
 obtain ⟨xs,rfl,hg⟩:=key pss hq
 refine ⟨xs,by rw [List.length_map,List.flatMap_def],by simpa using hm,hg⟩
def FieldsShp (P:Program):List Field→List (List PV)→Prop
 | [],[]=>True
 | f::r,a::b=>Shp P f.type a∧FieldsShp P r b
 | _,_=>False
theorem FieldsShp.of:∀ (fs:List Field) (pss:List (List PV)),pss.length=fs.length→(∀ (i:Nat) (f:Field) (ps:List PV),fs[i]? =some f→pss[i]? =some ps→Shp P f.type ps)→FieldsShp P fs pss
 | [],[],_,_=>trivial
 | f::r,a::b,hl,h=>⟨h 0 f a rfl rfl,FieldsShp.of r b (by simpa using hl) fun i f ps hf hp=>h (i+1) f ps (by simpa using hf) (by simpa using hp)⟩
 | [],_::_,hl,_=>by simp at hl
 | _::_,[],hl,_=>by simp at hl
theorem Shp.fields {t:TypeId} {fs:Array Field} {ps:List PV} (ht:P.underlying t=some (.struct fs)) (h:Shp P t ps):∃ pss:List (List PV),ps=pss.flatten∧FieldsShp P fs.toList pss:=by
 obtain ⟨pss,h1,h2,h3⟩:=h.of_struct ht
 exact ⟨pss,h1,FieldsShp.of _ _ (by simpa using h2) fun i f ps hf hp=>h3 i f ps (by simpa using hf) hp⟩
theorem Shp.arr_ints {t e n:Nat} {k:IntKind} {ps:List PV} (ht:P.underlying t=some (.array n e)) (he:P.underlying e=some (.int k)) (h:Shp P t ps):∃ zs:List Int,ps=zs.map (.int k)∧zs.length=n∧∀ z∈zs,(Lit.int k z).wf=true:=by
 obtain ⟨pss,rfl,hm,h⟩:=h.of_array ht
 have:∀ pss:List (List PV),(∀ q∈pss,Shp P e q)→∃ zs:List Int,pss.flatten=zs.map (.int k)∧zs.length=pss.length∧∀ z∈zs,(Lit.int k z).wf=true:=by
  intro pss
  induction pss with
  | nil=>intro _;exact ⟨[],rfl,rfl,fun z hz=>by simp at hz⟩
  | cons a r ih=>
   intro h
   obtain ⟨n,rfl,hw⟩:=(h a (List.mem_cons_self ..)).of_int he
   obtain ⟨zs,h1,h2,h3⟩:=ih (fun q hq=>h q (List.mem_cons_of_mem _ hq))
   exact ⟨n::zs,by simp [h1],by simp [h2],fun z hz=>by rcases List.mem_cons.1 hz with rfl|hz;exact hw;exact h3 z hz⟩
 obtain ⟨zs,h1,h2,h3⟩:=this pss h
 exact ⟨zs,h1,by omega,h3⟩
theorem ArgShp.agg {t:TypeId} {x:PV} (h:ArgShp P t x) (ha:zci P t=some true):∃ ps,Shp P t ps∧x= .agg ps:=by
 obtain ⟨ps,hp,⟨_,rfl⟩|⟨hf,_⟩⟩:=h
 ·exact ⟨ps,hp,rfl⟩
 ·rw [ha] at hf;cases hf
theorem ArgShp.one {t:TypeId} {x:PV} (h:ArgShp P t x) (ha:zci P t=some false):Shp P t [x]:=by
 obtain ⟨ps,hp,⟨hf,_⟩|⟨_,rfl⟩⟩:=h
 ·rw [ha] at hf;cases hf
 ·exact hp
theorem ArgsShp.cons {t:TypeId} {ts:List TypeId} {xs:List PV} (h:ArgsShp P (t::ts) xs):∃ x r,xs=x::r∧ArgShp P t x∧ArgsShp P ts r:=by
 match xs,h with
 | x::r,h=>exact ⟨x,r,rfl,h.1,h.2⟩
theorem ArgsShp.nil {xs:List PV} (h:ArgsShp P [] xs):xs=[]:=by
 match xs,h with
 | [],_=>rfl
end Go.Proofs.YtjgmdlcjbgiekaaGreatDoor.Pm
