/-
  Parts of the proof, put together in one text. No condition.
-/
import Derived.WalkKit
import Derived.WalkSpells
import Derived.WalkLawsBesides
import Derived.Deep.Draws
import Derived.Deep.AppendSrc
import Derived.Great.BuildSlice
namespace Go.Proofs.YtjgmdlcjbgiekaaGreatDoor.Pm
set_option linter.all false
def zwx:List (IntKind×Int):=[0,8,16,24,1,9,2,10,17,25,32,40,48,56,57,49,41,33,26,18,3,11,4,12,19,27,34,42,50,58,35,43,51,59,20,28,5,13,6,14,21,29,36,44,52,60,37,45,53,61,22,30,7,15,23,31,38,46,54,62,39,47,55,63].map fun n=>(.i64,n)
def zpZ:List (IntKind×Int):=[8,16,19,22,26,27,29,34,16,16,22,24,27,29,34,37,19,22,26,27,29,34,34,38,22,22,26,27,29,34,37,40,22,26,27,29,32,35,40,48,26,27,29,32,35,40,48,58,26,27,29,34,38,46,56,69,27,29,35,38,46,56,69,83].map fun n=>(.u8,n)
def zuC (g:Nat):Option (List (IntKind×Int)):=
 if g=1 then some zwx else
 if g=0 then some zpZ else
 none
end Go.Proofs.YtjgmdlcjbgiekaaGreatDoor.Pm
namespace Go.Proofs.YtjgmdlcjbgiekaaGreatDoor.Pm
set_option linter.all false
open Go.RowKit
inductive PV where
 | int (k:IntKind) (n:Int)
 | bool (b:Bool)
 | str (s:List UInt8)
 | nilp
 | ptr (id ver off:Nat)
 | ip (xs:List PV) (off:Nat)
 | slice (xs:List PV) (len:Nat) (full:Bool)
 | msl (id ver off len sz:Nat) (g:Bool)
 | agg (cs:List PV)
 | tup (vs:List PV)
 | func (f:FuncId) (first captured:List PV)
 | mp (id ver:Nat)
 | nl (k:Nat)
 | yl (l:Nat) (us:List Value) (fs:List PV)
 | lp (l:Nat) (o:Obj)
 | undef
def PV.cell:PV→Bool
 | .agg _| .tup _| .undef| .lp _ _=>false
 | _=>true
def PV.cells:PV→List PV
 | .agg cs=>cs
 | v=>[v]
structure Blk where
 e:TypeId
 ver:Nat
 cells:List PV
abbrev za:=List Blk
structure Ctx where
 B:Nat
 M:Nat→Nat→Option Value
 mu:List (Option Nat)
 vs:List Nat
 cp:List Nat
 top:Nat
def nlV:Nat→Value
 | 0=>.nilFunc
 | 1=>.nilIface
 | 2=>.map none
 | g+3=>.pointer (some ⟨g,0,none⟩)
theorem zpn (k:Nat):(nlV k).oneCell'=true:=by
 unfold nlV
 split<;>rfl
inductive VRel (C:Ctx):PV→Value→Prop where
 | nl (k:Nat):VRel C (.nl k) (nlV k)
 | yl {l:Nat} {us:List Value} {fs:List PV} (hl:us.length=fs.length) (hR:∀ (j:Nat) (x:PV) (u:Value),fs[j]? =some x→us[j]? =some u→VRel C x u):VRel C (.yl l us fs) (.func (.yield l) #[] #[])
 | int (k:IntKind) (n:Int):VRel C (.int k n) (.int k n)
 | bool (b:Bool):VRel C (.bool b) (.bool b)
 | str (s:ByteArray):VRel C (.str s.data.toList) (.string s)
 | nilp:VRel C .nilp (.pointer none)
 | ptr {id ver off b:Nat} (hm:C.mu[id]? =some (some b)) (hv:C.vs[id]? =some ver):VRel C (.ptr id ver off) (.pointer (some ⟨b,off,none⟩))
 | ptrS {id ver off cur:Nat} (v:Value) (h1:v.oneCell'=true) (hv:C.vs[id]? =some cur) (hlt:ver<cur):VRel C (.ptr id ver off) v
 | ip {xs:List PV} {off b o:Nat} {us:List Value} (hl:us.length=xs.length) (hM:∀ (j:Nat) (u:Value),us[j]? =some u→C.M b (o+j)=some u)
   (hc:∀ x∈xs,x.cell=true) (hR:∀ (j:Nat) (x:PV) (u:Value),xs[j]? =some x→us[j]? =some u→VRel C x u):VRel C (.ip xs off) (.pointer (some ⟨b,o+off,none⟩))
 | slice {xs:List PV} {len cap b o:Nat} {full:Bool} {us:List Value} (hl:us.length=xs.length) (hM:∀ (j:Nat) (u:Value),us[j]? =some u→C.M b (o+j)=some u)
   (hc:∀ x∈xs,x.cell=true) (hR:∀ (j:Nat) (x:PV) (u:Value),xs[j]? =some x→us[j]? =some u→VRel C x u) (hcap:len≤cap) (hmax:cap≤maxLen) (hf:full=true→cap=len):
   VRel C (.slice xs len full) (.slice (some ⟨b,o,none⟩) len cap)
 | sliceN (ad:Option Addr) (full:Bool):VRel C (.slice [] 0 full) (.slice ad 0 0)
 | msl {id ver off len sz b cap:Nat} {g:Bool} (hm:C.mu[id]? =some (some b)) (hv:C.vs[id]? =some ver) (hcap:len≤cap) (hmax:cap≤maxLen)
   (hg:g=true→off=0∧C.cp[id]? =some (cap * sz)):VRel C (.msl id ver off len sz g) (.slice (some ⟨b,off,none⟩) len cap)
 | mslE {id ver off off' sz b cap:Nat} (hm:C.mu[id]? =some (some b)) (hv:C.vs[id]? =some ver) (hmax:cap≤maxLen):VRel C (.msl id ver off 0 sz false) (.slice (some ⟨b,off',none⟩) 0 cap)
 | mslG {id ver off sz:Nat} {g:Bool} (ad:Option Addr) (hm:C.mu[id]? =some none∧C.cp[id]? =some 0) (hv:C.vs[id]? =some ver):VRel C (.msl id ver off 0 sz g) (.slice ad 0 0)
 | mslS {id ver off len sz cur:Nat} {g:Bool} (v:Value) (h1:v.oneCell'=true) (hv:C.vs[id]? =some cur) (hlt:ver<cur):VRel C (.msl id ver off len sz g) v
 | mp {id ver b:Nat} (hm:C.mu[id]? =some none) (hv:C.vs[id]? =some ver) (hb:C.cp[id]? =some (b+1)):VRel C (.mp id ver) (.map (some b))
 | mpS {id ver cur:Nat} (v:Value) (h1:v.oneCell'=true) (hv:C.vs[id]? =some cur) (hlt:ver<cur):VRel C (.mp id ver) v
 | agg {cs:List PV} {us:List Value} (hl:us.length=cs.length) (hc:∀ x∈cs,x.cell=true) (hR:∀ (j:Nat) (x:PV) (u:Value),cs[j]? =some x→us[j]? =some u→VRel C x u):VRel C (.agg cs) (.agg us.toArray)
 | tup {vs:List PV} {us:List Value} (hl:us.length=vs.length) (hR:∀ (j:Nat) (x:PV) (u:Value),vs[j]? =some x→us[j]? =some u→VRel C x u):VRel C (.tup vs) (.tuple us.toArray)
 | func {f:FuncId} {fs cs:List PV} {us ws:List Value} (hl:us.length=fs.length) (hl':ws.length=cs.length)
   (hR:∀ (j:Nat) (x:PV) (u:Value),fs[j]? =some x→us[j]? =some u→VRel C x u) (hR':∀ (j:Nat) (x:PV) (u:Value),cs[j]? =some x→ws[j]? =some u→VRel C x u):VRel C (.func f fs cs) (.func (.func f) us.toArray ws.toArray)
 | undef (v:Value):VRel C .undef v
def VRels (C:Ctx) (xs:List PV) (us:List Value):Prop:=us.length=xs.length∧∀ (j:Nat) (x:PV) (u:Value),xs[j]? =some x→us[j]? =some u→VRel C x u
structure CLe (C C':Ctx):Prop where
 B:C'.B=C.B
 M:∀ b o u,C.M b o=some u→C'.M b o=some u
 top:C'.top=C.top
 mnew:∀ b o u,C'.M b o=some u→C.M b o=some u∨C.top≤b∨some b∈C.mu
 unew:∀ b,some b∈C'.mu→some b∈C.mu∨C.top≤b
 ids:∀ (id ver:Nat),C.vs[id]? =some ver→∃ ver',C'.vs[id]? =some ver'∧ver≤ver'∧(ver'=ver→C'.mu[id]? =C.mu[id]? ∧C'.cp[id]? =C.cp[id]?)
theorem CLe.refl (C:Ctx):CLe C C:=⟨rfl,fun _ _ _ h=>h,rfl,fun _ _ _ h=>.inl h,fun _ h=>.inl h,fun _ ver h=>⟨ver,h,Nat.le_refl _,fun _=>⟨rfl,rfl⟩⟩⟩
theorem CLe.trans {C C' C'':Ctx} (h:CLe C C') (k:CLe C' C''):CLe C C'':=by
 refine ⟨k.B.trans h.B,fun b o u e=>k.M _ _ _ (h.M _ _ _ e),k.top.trans h.top,fun b o u e=> ?_,fun b e=> ?_,fun id ver e=> ?_⟩
 ·rcases k.mnew b o u e with e|e|e
  ·exact h.mnew b o u e
  ·exact .inr (.inl (by rw [←h.top];exact e))
  ·rcases h.unew b e with e|e
   ·exact .inr (.inr e)
   ·exact .inr (.inl e)
 ·rcases k.unew b e with e|e
  ·exact h.unew b e
  ·exact .inr (by rw [←h.top];exact e)
 obtain ⟨v1,e1,l1,q1⟩:=h.ids id ver e
 obtain ⟨v2,e2,l2,q2⟩:=k.ids id v1 e1
 refine ⟨v2,e2,Nat.le_trans l1 l2,fun he=> ?_⟩
 have h1:v1=ver:=by omega
 have h2:v2=v1:=by omega
 exact ⟨(q2 h2).1.trans (q1 h1).1,(q2 h2).2.trans (q1 h1).2⟩
theorem VRel.mono {C C':Ctx} (h:CLe C C') {x:PV} {u:Value} (r:VRel C x u):VRel C' x u:=by
 induction r with
 | nl k=>exact .nl k
 | yl hl _ ih=>exact .yl hl ih
 | int k n=>exact .int k n
 | bool b=>exact .bool b
 | str s=>exact .str s
 | nilp=>exact .nilp
 | ptr hm hv=>
  obtain ⟨v',e,l,q⟩:=h.ids _ _ hv
  rcases Nat.eq_or_lt_of_le l with he|he
  ·exact .ptr ((q he.symm).1.trans hm) (he▸e)
  ·exact .ptrS _ rfl e he
 | ptrS v h1 hv hlt=>
  obtain ⟨v',e,l,q⟩:=h.ids _ _ hv
  exact .ptrS v h1 e (by omega)
 | ip hl hM hc _ ih=>exact .ip hl (fun j u hu=>h.M _ _ _ (hM j u hu)) hc ih
 | slice hl hM hc _ hcap hmax hf ih=>exact .slice hl (fun j u hu=>h.M _ _ _ (hM j u hu)) hc ih hcap hmax hf
 | sliceN ad full=>exact .sliceN ad full
 | msl hm hv hcap hmax hg=>
  obtain ⟨v',e,l,q⟩:=h.ids _ _ hv
  rcases Nat.eq_or_lt_of_le l with he|he
  ·exact .msl ((q he.symm).1.trans hm) (he▸e) hcap hmax (fun hgt=>⟨(hg hgt).1,(q he.symm).2.trans (hg hgt).2⟩)
  ·exact .mslS _ rfl e he
 | mslE hm hv hmax=>
  obtain ⟨v',e,l,q⟩:=h.ids _ _ hv
  rcases Nat.eq_or_lt_of_le l with he|he
  ·exact .mslE ((q he.symm).1.trans hm) (he▸e) hmax
  ·exact .mslS _ rfl e he
 | mslG ad hm hv=>
  obtain ⟨v',e,l,q⟩:=h.ids _ _ hv
  rcases Nat.eq_or_lt_of_le l with he|he
  ·exact .mslG ad ⟨(q he.symm).1.trans hm.1,(q he.symm).2.trans hm.2⟩ (he▸e)
  ·exact .mslS _ rfl e he
 | mslS v h1 hv hlt=>
  obtain ⟨v',e,l,q⟩:=h.ids _ _ hv
  exact .mslS v h1 e (by omega)
 | mp hm hv hb=>
  obtain ⟨v',e,l,q⟩:=h.ids _ _ hv
  rcases Nat.eq_or_lt_of_le l with he|he
  ·exact .mp ((q he.symm).1.trans hm) (he▸e) ((q he.symm).2.trans hb)
  ·exact .mpS _ rfl e he
 | mpS v h1 hv hlt=>
  obtain ⟨v',e,l,q⟩:=h.ids _ _ hv
  exact .mpS v h1 e (by omega)
 | agg hl hc _ ih=>exact .agg hl hc ih
 | tup hl _ ih=>exact .tup hl ih
 | func hl hl' _ _ ih ih'=>exact .func hl hl' ih ih'
 | undef v=>exact .undef v
theorem VRels.mono {C C':Ctx} (h:CLe C C') {xs:List PV} {us:List Value} (r:VRels C xs us):VRels C' xs us:=
 ⟨r.1,fun j x u hx hu=>(r.2 j x u hx hu).mono h⟩
theorem VRel.oneCell {C:Ctx} {x:PV} {u:Value} (r:VRel C x u) (hc:x.cell=true):u.oneCell'=true:=by
 cases r<;>first|rfl|assumption|exact zpn _|(simp [PV.cell] at hc)
def zk6:Obj→Bool
 | .cells _ _ _=>true
 | _=>false
def zvj (C:Ctx) (w:World) (k:Blk) (p:Option Nat):Prop:=
 ∃ (b:Nat) (es:Array MapEntry) (clock:Nat),p=some (b+1)∧C.B≤b∧w.heap[b]? =some (.map es clock)∧es.size=k.cells.length∧
  ∀ (j:Nat) (x:PV) (e:MapEntry),k.cells[j]? =some x→es[j]? =some e→VRel C x (.tuple #[e.key,e.val])
def zvk (C:Ctx) (w:World) (k:Blk) (p:Option Nat):Prop:=
 ∃ (b:Nat) (o:Obj),p=some (b+1)∧C.B≤b∧w.heap[b]? =some o∧k.cells=[.lp b o]∧zk6 o=false
def MapAt (C:Ctx) (w:World) (k:Blk) (p:Option Nat):Prop:=zvj C w k p∨zvk C w k p
theorem MapAt.mono {C C':Ctx} (hle:CLe C C') {w w':World} {k:Blk} {p p':Option Nat} (hp:p'=p) (hw:∀ (b:Nat) (o:Obj),zk6 o=false→p=some (b+1)→w.heap[b]? =some o→w'.heap[b]? =some o) (h:MapAt C w k p):MapAt C' w' k p':=by
 rcases h with ⟨b,es,clock,q1,q2,q3,q4,q5⟩|⟨b,r,q1,q2,q3,q4⟩
 ·exact .inl ⟨b,es,clock,hp.trans q1,by rw [hle.B];exact q2,hw b _ rfl q1 q3,q4,fun j x e hx he=>(q5 j x e hx he).mono hle⟩
 ·exact .inr ⟨b,r,hp.trans q1,by rw [hle.B];exact q2,hw b _ q4.2 q1 q3,q4⟩
theorem MapAt.lt {C:Ctx} {w:World} {k:Blk} {b:Nat} (h:MapAt C w k (some (b+1))):b<w.heap.size:=by
 rcases h with ⟨b',es,clock,q1,q2,q3,q4,q5⟩|⟨b',r,q1,q2,q3,q4⟩<;>
 ·injection q1 with q1
  have:b'=b:=by omega
  subst this
  exact (Array.getElem?_eq_some_iff.1 q3).1
def Glob (M:Nat→Nat→Option Value):Prop:=∀ (g:Nat) (l:List (IntKind×Int)),zuC g=some l→∀ (j:Nat) (x:IntKind×Int),l[j]? =some x→M g j=some (.int x.1 x.2)
theorem Glob.mono {M M':Nat→Nat→Option Value} (h:Glob M) (hle:∀ b o u,M b o=some u→M' b o=some u):Glob M':=fun g l hg j x hx=>hle _ _ _ (h g l hg j x hx)
structure WRel (C:Ctx) (H:za) (w:World):Prop where
 gl:Glob C.M
 base:C.B≤w.heap.size
 tople:C.top≤w.heap.size
 imm:∀ b o u,C.M b o=some u→w.cell? ⟨b,o,none⟩=some u
 len:C.mu.length=H.length
 lenv:C.vs.length=H.length
 lenc:C.cp.length=H.length
 ver:∀ (id:Nat) (k:Blk),H[id]? =some k→C.vs[id]? =some k.ver
 gho:∀ (id:Nat) (k:Blk),H[id]? =some k→C.mu[id]? =some none→(C.cp[id]? =some 0∧k.cells=[])∨MapAt C w k C.cp[id]?
 own:∀ (id:Nat) (k:Blk) (b:Nat),H[id]? =some k→C.mu[id]? =some (some b)→∃ cur,C.cp[id]? =some cur.size∧C.B≤b∧
  w.heap[b]? =some (.cells cur k.e (0,0))∧(∀ x∈k.cells,x.cell=true)∧k.cells.length≤cur.size∧∀ (j:Nat) (x:PV) (u:Value),k.cells[j]? =some x→cur[j]? =some u→VRel C x u
 disj:∀ (id b:Nat),C.mu[id]? =some (some b)→∀ o,C.M b o=none
 inj:∀ (i j b:Nat),C.mu[i]? =some (some b)→C.mu[j]? =some (some b)→i=j
 minj:∀ (i j b:Nat),C.mu[i]? =some none→C.mu[j]? =some none→C.cp[i]? =some (b+1)→C.cp[j]? =some (b+1)→i=j
variable {C:Ctx} {H:za} {w:World}
theorem WRel.mu_lt (h:WRel C H w) {id b:Nat} (hm:C.mu[id]? =some (some b)):b<w.heap.size:=by
 have hid:id<H.length:=by
  have:=(List.getElem?_eq_some_iff.1 hm).1
  have:=h.len
  omega
 obtain ⟨cur,_,_,hb,_⟩:=h.own id H[id] b (List.getElem?_eq_getElem hid) hm
 exact (Array.getElem?_eq_some_iff.1 hb).1
theorem WRel.imm_lt (h:WRel C H w) {b o:Nat} {u:Value} (hm:C.M b o=some u):b<w.heap.size:=World.block_lt_of_cell? w ⟨b,o,none⟩ (h.imm b o u hm)
theorem WRel.map_lt (h:WRel C H w) {id b:Nat} (hm:C.mu[id]? =some none) (hc:C.cp[id]? =some (b+1)):b<w.heap.size:=by
 have hid:id<H.length:=by
  have:=(List.getElem?_eq_some_iff.1 hm).1
  have:=h.len
  omega
 rcases h.gho id H[id] (List.getElem?_eq_getElem hid) hm with ⟨h1,_⟩|h1
 ·rw [hc] at h1;injection h1 with h1;omega
 ·rw [hc] at h1;exact h1.lt
theorem WRel.heap (h:WRel C H w) {w':World} (he:w'.heap=w.heap):WRel C H w':=by
 have hcell:∀ a,w'.cell? a=w.cell? a:=fun a=>by simp [World.cell?,he]
 exact ⟨h.gl,by rw [he];exact h.base,by rw [he];exact h.tople,fun b o u hu=>(hcell _).trans (h.imm b o u hu),h.len,h.lenv,h.lenc,h.ver,fun id k hk hm=>(h.gho id k hk hm).imp_right (fun m=>m.mono (.refl _) rfl (fun b es c _ hb=>by rw [he];exact hb)),fun id k b hk=>by rw [he];exact h.own id k b hk,h.disj,h.inj,h.minj⟩
theorem WRel.drew (h:WRel C H w):WRel C H w.drew:=h.heap rfl
def Ctx.more (C:Ctx) (b:Option Nat) (n:Nat) (v:Nat:=0):Ctx:={ C with mu:=C.mu++[b],vs:=C.vs++[v],cp:=C.cp++[n] }
theorem Ctx.le_more (C:Ctx) (b:Option Nat) (n v:Nat) (hb:∀ b',b=some b'→C.top≤b') (h1:C.mu.length=C.vs.length) (h2:C.cp.length=C.vs.length):CLe C (C.more b n v):=by
 refine ⟨rfl,fun _ _ _ h=>h,rfl,fun _ _ _ h=>.inl h,fun b' h=> ?_,fun id ver h=>⟨ver,?_,Nat.le_refl _,fun _=>⟨?_,?_⟩⟩⟩
 ·simp only [Ctx.more,List.mem_append,List.mem_singleton] at h
  rcases h with h|h
  ·exact .inl h
  ·exact .inr (hb b' h.symm)
 all_goals (have hlt:=(List.getElem?_eq_some_iff.1 h).1)
 ·simp only [Ctx.more,List.getElem?_append_left hlt,h]
 ·simp only [Ctx.more];rw [List.getElem?_append_left (by omega)]
 ·simp only [Ctx.more];rw [List.getElem?_append_left (by omega)]
theorem zD {α:Type} {l:List α} {a x:α} {i:Nat} (h:(l++[a])[i]? =some x):(i<l.length∧l[i]? =some x)∨(i=l.length∧x=a):=by
 by_cases hi:i<l.length
 ·rw [List.getElem?_append_left hi] at h;exact .inl ⟨hi,h⟩
 ·have hlt:=(List.getElem?_eq_some_iff.1 h).1
  simp at hlt
  obtain rfl:i=l.length:=by omega
  simp at h
  exact .inr ⟨rfl,h.symm⟩
theorem zdF (h:WRel C H w) {b:Option Nat} {n v:Nat} (hn:∀ (p:Nat),b=none→n=p+1→∀ (i:Nat),C.mu[i]? =some none→C.cp[i]? ≠some (p+1)) (i j p:Nat) (hi:(C.more b n v).mu[i]? =some none) (hj:(C.more b n v).mu[j]? =some none)
  (ci:(C.more b n v).cp[i]? =some (p+1)) (cj:(C.more b n v).cp[j]? =some (p+1)):i=j:=by
 have e1:=h.len
 have e3:=h.lenc
 simp only [Ctx.more] at hi hj ci cj
 rcases zD hi with ⟨li,hi⟩|⟨li,hi⟩<;>rcases zD hj with ⟨lj,hj⟩|⟨lj,hj⟩<;>rcases zD ci with ⟨mi,ci⟩|⟨mi,ci⟩<;>rcases zD cj with ⟨mj,cj⟩|⟨mj,cj⟩<;>first
  | omega
  | exact h.minj i j p hi hj ci cj
  | exact absurd ci (hn p hj.symm cj.symm i hi)
  | exact absurd cj (hn p hi.symm ci.symm j hj)
theorem WRel.allocOwn (h:WRel C H w) (cur:Array Value) (e:TypeId) (xs:List PV) (v:Nat) (hc:∀ x∈xs,x.cell=true) (hl:xs.length≤cur.size)
  (hR:∀ (j:Nat) (x:PV) (u:Value),xs[j]? =some x→cur[j]? =some u→VRel C x u):
  CLe C (C.more (some w.heap.size) cur.size v)∧WRel (C.more (some w.heap.size) cur.size v) (H++[⟨e,v,xs⟩]) (w.alloc (.cells cur e))∧Below C.B w (w.alloc (.cells cur e)):=by
 have hle:CLe C (C.more (some w.heap.size) cur.size v):=C.le_more _ _ _ (fun b' e=>by injection e with e;rw [←e];exact h.tople) (h.len.trans h.lenv.symm) (h.lenc.trans h.lenv.symm)
 refine ⟨hle,?_,(Below.refl _ _).alloc h.base _⟩
 have e1:=h.len
 have e2:=h.lenv
 have e3:=h.lenc
 refine ⟨h.gl.mono hle.M,?_,?_,?_,?_,?_,?_,?_,?_,?_,?_,?_,zdF h (fun _ hp=>by cases hp)⟩
 ·have:=h.base;simp only [Ctx.more,World.size_alloc];omega
 ·have:=h.tople;simp only [Ctx.more,World.size_alloc];omega
 ·intro b o u hu
  have hb:=h.imm_lt (o:=o) hu
  exact (World.cell?_alloc_lt w _ ⟨b,o,none⟩ hb).trans (h.imm b o u hu)
 ·simp [Ctx.more,e1]
 ·simp [Ctx.more,e2]
 ·simp [Ctx.more,e3]
 ·intro id k hk
  simp only [Ctx.more]
  rcases zD hk with ⟨hid,hk⟩|⟨rfl,rfl⟩
  ·rw [List.getElem?_append_left (by omega)];exact h.ver id k hk
  ·simp [←e2]
 ·intro id k hk hm
  simp only [Ctx.more] at hm ⊢
  rcases zD hk with ⟨hid,hk⟩|⟨rfl,rfl⟩
  ·rw [List.getElem?_append_left (by omega)] at hm ⊢;exact (h.gho id k hk hm).imp_right (fun m=>m.mono hle rfl (fun b es c hp hb=>by rw [Below.heap_alloc _ _ _ (Array.getElem?_eq_some_iff.1 hb).1];exact hb))
  ·simp [←e1] at hm
 ·intro id k b hk hm
  simp only [Ctx.more] at hm ⊢
  rcases zD hk with ⟨hid,hk⟩|⟨rfl,rfl⟩
  ·rw [List.getElem?_append_left (by omega)] at hm
   obtain ⟨c,q3,q4,q5,q6,q7,q8⟩:=h.own id k b hk hm
   exact ⟨c,by rw [List.getElem?_append_left (by omega)];exact q3,q4,by rw [Below.heap_alloc _ _ _ (h.mu_lt hm)];exact q5,q6,q7,fun j x u hx hu=>(q8 j x u hx hu).mono hle⟩
  ·simp [←e1] at hm
   subst hm
   exact ⟨cur,by simp [←e3],h.base,heap_alloc_new w _,hc,hl,fun j x u hx hu=>(hR j x u hx hu).mono hle⟩
 ·intro id b hb o
  simp only [Ctx.more] at hb ⊢
  rcases zD hb with ⟨hid,hb1⟩|⟨rfl,hb1⟩
  ·exact h.disj id b hb1 o
  ·injection hb1 with hb1
   subst hb1
   cases hM:C.M w.heap.size o with
   | none=>rfl
   | some u=>exact absurd (h.imm_lt hM) (by omega)
 ·intro i j b hi hj
  simp only [Ctx.more] at hi hj
  rcases zD hi with ⟨li,hi⟩|⟨li,hi⟩<;>rcases zD hj with ⟨lj,hj⟩|⟨lj,hj⟩
  ·exact h.inj i j b hi hj
  ·injection hj with hj
   subst hj
   exact absurd (h.mu_lt hi) (by omega)
  ·injection hi with hi
   subst hi
   exact absurd (h.mu_lt hj) (by omega)
  ·omega
theorem WRel.ghost (h:WRel C H w) (e v:Nat):CLe C (C.more none 0 v)∧WRel (C.more none 0 v) (H++[⟨e,v,[]⟩]) w:=by
 have hle:CLe C (C.more none 0 v):=C.le_more _ _ _ (fun b' e=>by cases e) (h.len.trans h.lenv.symm) (h.lenc.trans h.lenv.symm)
 refine ⟨hle,?_⟩
 have e1:=h.len
 have e2:=h.lenv
 have e3:=h.lenc
 refine ⟨h.gl,h.base,h.tople,h.imm,?_,?_,?_,?_,?_,?_,?_,?_,zdF h (fun _ _ hc=>by cases hc)⟩
 ·simp [Ctx.more,e1]
 ·simp [Ctx.more,e2]
 ·simp [Ctx.more,e3]
 ·intro id k hk
  simp only [Ctx.more]
  rcases zD hk with ⟨hid,hk⟩|⟨rfl,rfl⟩
  ·rw [List.getElem?_append_left (by omega)];exact h.ver id k hk
  ·simp [←e2]
 ·intro id k hk hm
  simp only [Ctx.more] at hm ⊢
  rcases zD hk with ⟨hid,hk⟩|⟨rfl,rfl⟩
  ·rw [List.getElem?_append_left (by omega)] at hm ⊢;exact (h.gho id k hk hm).imp_right (fun m=>m.mono hle rfl (fun b es c hp hb=>hb))
  ·exact .inl ⟨by simp [←e3],rfl⟩
 ·intro id k b hk hm
  simp only [Ctx.more] at hm ⊢
  rcases zD hk with ⟨hid,hk⟩|⟨rfl,rfl⟩
  ·rw [List.getElem?_append_left (by omega)] at hm
   obtain ⟨c,q3,q4,q5,q6,q7,q8⟩:=h.own id k b hk hm
   exact ⟨c,by rw [List.getElem?_append_left (by omega)];exact q3,q4,q5,q6,q7,fun j x u hx hu=>(q8 j x u hx hu).mono hle⟩
  ·simp [←e1] at hm
 ·intro id b hb o
  simp only [Ctx.more] at hb ⊢
  rcases zD hb with ⟨hid,hb1⟩|⟨rfl,hb1⟩
  ·exact h.disj id b hb1 o
  ·cases hb1
 ·intro i j b hi hj
  simp only [Ctx.more] at hi hj
  rcases zD hi with ⟨li,hi⟩|⟨li,hi⟩<;>rcases zD hj with ⟨lj,hj⟩|⟨lj,hj⟩
  ·exact h.inj i j b hi hj
  ·cases hj
  ·cases hi
  ·omega
def Ctx.imm (C:Ctx) (b:Nat) (cur:Array Value):Ctx:={ C with M:=fun b' o=>if b'=b then cur[o]? else C.M b' o }
theorem WRel.allocImm (h:WRel C H w) (cur:Array Value) (e:TypeId):
  CLe C (C.imm w.heap.size cur)∧WRel (C.imm w.heap.size cur) H (w.alloc (.cells cur e))∧Below C.B w (w.alloc (.cells cur e)):=by
 have hle:CLe C (C.imm w.heap.size cur):=by
  refine ⟨rfl,fun b o u hu=> ?_,rfl,fun b o u hu=> ?_,fun _ h=>.inl h,fun id ver hv=>⟨ver,hv,Nat.le_refl _,fun _=>⟨rfl,rfl⟩⟩⟩
  ·have:=h.imm_lt hu
   simp only [Ctx.imm]
   rw [if_neg (by omega)]
   exact hu
  ·simp only [Ctx.imm] at hu
   split at hu
   ·rename_i hb;exact .inr (.inl (by rw [hb];exact h.tople))
   ·exact .inl hu
 refine ⟨hle,?_,(Below.refl _ _).alloc h.base _⟩
 refine ⟨h.gl.mono hle.M,?_,?_,?_,h.len,h.lenv,h.lenc,h.ver,fun id k hk hm=>(h.gho id k hk hm).imp_right (fun m=>m.mono hle rfl (fun b es c hp hb=>by rw [Below.heap_alloc _ _ _ (Array.getElem?_eq_some_iff.1 hb).1];exact hb)),?_,?_,h.inj,h.minj⟩
 ·have:=h.base;simp only [Ctx.imm,World.size_alloc];omega
 ·have:=h.tople;simp only [Ctx.imm,World.size_alloc];omega
 ·intro b o u hu
  simp only [Ctx.imm] at hu
  by_cases hb:b=w.heap.size
  ·subst hb
   simp only [if_true] at hu
   rw [World.cell?_alloc_at _ _ _ _ rfl]
   exact hu
  ·rw [if_neg hb] at hu
   exact (World.cell?_alloc_lt w _ ⟨b,o,none⟩ (h.imm_lt hu)).trans (h.imm b o u hu)
 ·intro id k b hk hm
  obtain ⟨c,q3,q4,q5,q6,q7,q8⟩:=h.own id k b hk hm
  exact ⟨c,q3,q4,by rw [Below.heap_alloc _ _ _ (h.mu_lt hm)];exact q5,q6,q7,fun j x u hx hu=>(q8 j x u hx hu).mono hle⟩
 ·intro id b hb o
  have:=h.mu_lt hb
  simp only [Ctx.imm]
  rw [if_neg (by omega)]
  exact h.disj id b hb o
theorem zlN {k:Blk} {id ver':Nat} (hver:k.ver≤ver') (hk:H[id]? =some k) (h:WRel C H w) (mu':List (Option Nat)) (cp':List Nat) (hmu:∀ i,i≠id→mu'[i]? =C.mu[i]? ∧cp'[i]? =C.cp[i]?) (hun:∀ b,some b∈mu'→some b∈C.mu∨C.top≤b)
  (hs:k.ver=ver'→mu'[id]? =C.mu[id]? ∧cp'[id]? =C.cp[id]?):CLe C { C with mu:=mu',vs:=C.vs.set id ver',cp:=cp' }:=by
 have hid:id<H.length:=(List.getElem?_eq_some_iff.1 hk).1
 have p2:=h.ver id k hk
 have e2:=h.lenv
 refine ⟨rfl,fun _ _ _ hu=>hu,rfl,fun _ _ _ h=>.inl h,hun,fun i ver hv=> ?_⟩
 by_cases hi:i=id
 ·subst hi
  rw [p2] at hv
  injection hv with hv
  exact ⟨ver',by simp [e2,hid],by omega,fun he=>hs (by omega)⟩
 ·exact ⟨ver,by simp only [List.getElem?_set];rw [if_neg (by omega)];exact hv,Nat.le_refl _,fun _=>hmu i hi⟩
theorem WRel.write (h:WRel C H w) {id b:Nat} {k:Blk} {cur:Array Value} (hk:H[id]? =some k) (hm:C.mu[id]? =some (some b)) (hb:w.heap[b]? =some (.cells cur k.e (0,0)))
  (ver':Nat) (hver:k.ver≤ver') (xs:List PV) (cur':Array Value) (hsz:cur'.size=cur.size) (hc:∀ x∈xs,x.cell=true) (hl:xs.length≤cur'.size)
  (hR:∀ (j:Nat) (x:PV) (u:Value),xs[j]? =some x→cur'[j]? =some u→VRel C x u):
  CLe C { C with vs:=C.vs.set id ver' }∧WRel { C with vs:=C.vs.set id ver' } (H.set id ⟨k.e,ver',xs⟩) (w.setRow b cur')∧Below C.B w (w.setRow b cur'):=by
 have hid:id<H.length:=(List.getElem?_eq_some_iff.1 hk).1
 obtain ⟨cur0,p3,p4,p5,_⟩:=h.own id k b hk hm
 rw [hb] at p5
 injection p5 with p5
 injection p5 with p5
 subst p5
 have e1:=h.len
 have e2:=h.lenv
 have e3:=h.lenc
 have hle:CLe C { C with vs:=C.vs.set id ver' }:=zlN hver hk h C.mu C.cp (fun _ _=>⟨rfl,rfl⟩) (fun _ h=>.inl h) (fun _=>⟨rfl,rfl⟩)
 refine ⟨hle,?_,?_⟩
 ·refine ⟨h.gl,?_,?_,?_,?_,?_,?_,?_,?_,?_,h.disj,h.inj,h.minj⟩
  ·have:=h.base;simp [World.setRow];exact this
  ·have:=h.tople;simp [World.setRow];exact this
  ·intro b' o u hu
   have hne:b'≠b:=by
    rintro rfl
    have:=h.disj id b' hm o
    rw [this] at hu
    cases hu
   exact (cell_setRow_other w b cur' ⟨b',o,none⟩ hne).trans (h.imm b' o u hu)
  ·simp [e1]
  ·simp [e2]
  ·simp [e3]
  ·intro i k' hk'
   by_cases hi:i=id
   ·subst hi
    simp [hid] at hk'
    subst hk'
    simp [e2,hid]
   ·rw [List.getElem?_set_ne (by omega)] at hk'
    rw [List.getElem?_set_ne (by omega)]
    exact h.ver i k' hk'
  ·intro i k' hk' hm'
   by_cases hi:i=id
   ·subst hi
    rw [hm] at hm'
    cases hm'
   ·rw [List.getElem?_set_ne (by omega)] at hk'
    exact (h.gho i k' hk' hm').imp_right (fun m=>m.mono hle rfl (fun b2 es c hp hb2=>by
     have hne:b2≠b:=by
      rintro rfl
      rw [hb] at hb2;injection hb2 with hb2;subst hb2;cases c
     rw [setRow_other w b b2 cur' hne];exact hb2))
  ·intro i k' b' hk' hm'
   by_cases hi:i=id
   ·subst hi
    simp [hid] at hk'
    subst hk'
    rw [hm] at hm'
    injection hm' with hm'
    injection hm' with hm'
    subst hm'
    exact ⟨cur',by rw [hsz];exact p3,p4,setRow_heap w b cur cur' k.e _ hb,hc,hl,fun j x u hx hu=>(hR j x u hx hu).mono hle⟩
   ·rw [List.getElem?_set_ne (by omega)] at hk'
    obtain ⟨c,q3,q4,q5,q6,q7,q8⟩:=h.own i k' b' hk' hm'
    have hne:b'≠b:=by
     rintro rfl
     exact hi (h.inj i id b' hm' hm)
    exact ⟨c,q3,q4,by rw [setRow_other w b b' cur' hne];exact q5,q6,q7,fun j x u hx hu=>(q8 j x u hx hu).mono hle⟩
 ·refine ⟨rfl,rfl,rfl,by simp [World.setRow],fun i hi=>setRow_other w b i cur' (by omega)⟩
theorem WRel.move (h:WRel C H w) {id:Nat} {k:Blk} (hk:H[id]? =some k) (ver':Nat) (hver:k.ver<ver') (xs:List PV) (cur':Array Value) (hc:∀ x∈xs,x.cell=true) (hl:xs.length≤cur'.size)
  (hR:∀ (j:Nat) (x:PV) (u:Value),xs[j]? =some x→cur'[j]? =some u→VRel C x u):
  CLe C { C with mu:=C.mu.set id (some w.heap.size),vs:=C.vs.set id ver',cp:=C.cp.set id cur'.size }∧
  WRel { C with mu:=C.mu.set id (some w.heap.size),vs:=C.vs.set id ver',cp:=C.cp.set id cur'.size } (H.set id ⟨k.e,ver',xs⟩) (w.alloc (.cells cur' k.e))∧
  Below C.B w (w.alloc (.cells cur' k.e)):=by
 have hid:id<H.length:=(List.getElem?_eq_some_iff.1 hk).1
 have e1:=h.len
 have e2:=h.lenv
 have e3:=h.lenc
 have hle:CLe C { C with mu:=C.mu.set id (some w.heap.size),vs:=C.vs.set id ver',cp:=C.cp.set id cur'.size }:=
  zlN (by omega) hk h _ _ (fun i hi=>⟨List.getElem?_set_ne (by omega),List.getElem?_set_ne (by omega)⟩) (fun b hb=>by
   rcases List.mem_or_eq_of_mem_set hb with hb|hb
   ·exact .inl hb
   ·injection hb with hb;exact .inr (by rw [hb];exact h.tople)) (fun he=>by omega)
 refine ⟨hle,?_,(Below.refl _ _).alloc h.base _⟩
 refine ⟨h.gl,?_,?_,?_,?_,?_,?_,?_,?_,?_,?_,?_,?_⟩
 ·have:=h.base;simp only [World.size_alloc];omega
 ·have:=h.tople;simp only [World.size_alloc];omega
 ·intro b o u hu
  exact (World.cell?_alloc_lt w _ ⟨b,o,none⟩ (h.imm_lt hu)).trans (h.imm b o u hu)
 ·simp [e1]
 ·simp [e2]
 ·simp [e3]
 ·intro i k' hk'
  by_cases hi:i=id
  ·subst hi
   simp [hid] at hk'
   subst hk'
   simp [e2,hid]
  ·rw [List.getElem?_set_ne (by omega)] at hk'
   rw [List.getElem?_set_ne (by omega)]
   exact h.ver i k' hk'
 ·intro i k' hk' hm'
  by_cases hi:i=id
  ·subst hi
   simp [e1,hid] at hm'
  ·rw [List.getElem?_set_ne (by omega)] at hk' hm'
   rw [List.getElem?_set_ne (by omega)]
   exact (h.gho i k' hk' hm').imp_right (fun m=>m.mono hle rfl (fun b es c hp hb=>by rw [Below.heap_alloc _ _ _ (Array.getElem?_eq_some_iff.1 hb).1];exact hb))
 ·intro i k' b' hk' hm'
  by_cases hi:i=id
  ·subst hi
   simp [hid] at hk'
   subst hk'
   simp [e1,hid] at hm'
   subst hm'
   exact ⟨cur',by simp [e3,hid],h.base,heap_alloc_new w _,hc,hl,fun j x u hx hu=>(hR j x u hx hu).mono hle⟩
  ·rw [List.getElem?_set_ne (by omega)] at hk' hm'
   obtain ⟨c,q3,q4,q5,q6,q7,q8⟩:=h.own i k' b' hk' hm'
   exact ⟨c,by rw [List.getElem?_set_ne (by omega)];exact q3,q4,by rw [Below.heap_alloc _ _ _ (h.mu_lt hm')];exact q5,q6,q7,fun j x u hx hu=>(q8 j x u hx hu).mono hle⟩
 ·intro i b hb o
  by_cases hi:i=id
  ·subst hi
   simp [e1,hid] at hb
   subst hb
   cases hM:C.M w.heap.size o with
   | none=>rfl
   | some u=>exact absurd (h.imm_lt hM) (by omega)
  ·simp only [List.getElem?_set_ne (by omega:id≠i)] at hb
   exact h.disj i b hb o
 ·intro i j b hbi hbj
  by_cases hi:i=id<;>by_cases hj:j=id
  ·omega
  ·subst hi
   simp [e1,hid] at hbi
   simp only [List.getElem?_set_ne (by omega:i≠j)] at hbj
   subst hbi
   exact absurd (h.mu_lt hbj) (by omega)
  ·subst hj
   simp [e1,hid] at hbj
   simp only [List.getElem?_set_ne (by omega:j≠i)] at hbi
   subst hbj
   exact absurd (h.mu_lt hbi) (by omega)
  ·simp only [List.getElem?_set_ne (by omega:id≠i)] at hbi
   simp only [List.getElem?_set_ne (by omega:id≠j)] at hbj
   exact h.inj i j b hbi hbj
 ·have ne:∀ {i:Nat},(C.mu.set id (some w.heap.size))[i]? =some none→id≠i∧C.mu[i]? =some none:=fun {i} h=>by
   by_cases hi:i=id
   ·subst hi;simp [e1,hid] at h
   ·exact ⟨by omega,by rw [List.getElem?_set_ne (by omega)] at h;exact h⟩
  intro i j b mi mj ci cj
  simp only [List.getElem?_set_ne (ne mi).1] at ci
  simp only [List.getElem?_set_ne (ne mj).1] at cj
  exact h.minj i j b (ne mi).2 (ne mj).2 ci cj
theorem WRel.allocMap (h:WRel C H w) (e v:Nat):CLe C (C.more none (w.heap.size+1) v)∧WRel (C.more none (w.heap.size+1) v) (H++[⟨e,v,[]⟩]) (w.alloc (.map #[] 0))∧Below C.B w (w.alloc (.map #[] 0)):=by
 have hle:CLe C (C.more none (w.heap.size+1) v):=C.le_more _ _ _ (fun b' e=>by cases e) (h.len.trans h.lenv.symm) (h.lenc.trans h.lenv.symm)
 refine ⟨hle,?_,(Below.refl _ _).alloc h.base _⟩
 have e1:=h.len
 have e2:=h.lenv
 have e3:=h.lenc
 refine ⟨h.gl.mono hle.M,?_,?_,?_,?_,?_,?_,?_,?_,?_,?_,?_,zdF h (fun p _ hp i hi hc=> ?_)⟩
 ·have:=h.base;simp only [Ctx.more,World.size_alloc];omega
 ·have:=h.tople;simp only [Ctx.more,World.size_alloc];omega
 ·intro b o u hu
  have hb:=h.imm_lt (o:=o) hu
  exact (World.cell?_alloc_lt w _ ⟨b,o,none⟩ hb).trans (h.imm b o u hu)
 ·simp [Ctx.more,e1]
 ·simp [Ctx.more,e2]
 ·simp [Ctx.more,e3]
 ·intro id k hk
  simp only [Ctx.more]
  rcases zD hk with ⟨hid,hk⟩|⟨rfl,rfl⟩
  ·rw [List.getElem?_append_left (by omega)];exact h.ver id k hk
  ·simp [←e2]
 ·intro id k hk hm
  simp only [Ctx.more] at hm ⊢
  rcases zD hk with ⟨hid,hk⟩|⟨rfl,rfl⟩
  ·rw [List.getElem?_append_left (by omega)] at hm ⊢
   exact (h.gho id k hk hm).imp_right (fun m=>m.mono hle rfl (fun b es c hp hb=>by rw [Below.heap_alloc _ _ _ (Array.getElem?_eq_some_iff.1 hb).1];exact hb))
  ·exact .inr (.inl ⟨w.heap.size,#[],0,by simp [←e3],h.base,heap_alloc_new w _,rfl,fun j x e hx=>by simp at hx⟩)
 ·intro id k b hk hm
  simp only [Ctx.more] at hm ⊢
  rcases zD hk with ⟨hid,hk⟩|⟨rfl,rfl⟩
  ·rw [List.getElem?_append_left (by omega)] at hm
   obtain ⟨c,q3,q4,q5,q6,q7,q8⟩:=h.own id k b hk hm
   exact ⟨c,by rw [List.getElem?_append_left (by omega)];exact q3,q4,by rw [Below.heap_alloc _ _ _ (h.mu_lt hm)];exact q5,q6,q7,fun j x u hx hu=>(q8 j x u hx hu).mono hle⟩
  ·simp [←e1] at hm
 ·intro id b hb o
  simp only [Ctx.more] at hb ⊢
  rcases zD hb with ⟨hid,hb1⟩|⟨rfl,hb1⟩
  ·exact h.disj id b hb1 o
  ·cases hb1
 ·intro i j b hi hj
  simp only [Ctx.more] at hi hj
  rcases zD hi with ⟨li,hi⟩|⟨li,hi⟩<;>rcases zD hj with ⟨lj,hj⟩|⟨lj,hj⟩
  ·exact h.inj i j b hi hj
  ·cases hj
  ·cases hi
  ·omega
 ·have:=h.map_lt hi hc
  omega
theorem WRel.mapSet (h:WRel C H w) {id b:Nat} {k:Blk} {es:Array MapEntry} {clock:Nat} (hk:H[id]? =some k) (hm:C.mu[id]? =some none) (hp:C.cp[id]? =some (b+1)) (hb:w.heap[b]? =some (.map es clock)) (es':Array MapEntry) (clock':Nat) (cs:List PV) (hs:es'.size=cs.length)
  (hR:∀ (j:Nat) (x:PV) (e:MapEntry),cs[j]? =some x→es'[j]? =some e→VRel C x (.tuple #[e.key,e.val])):
  WRel C (H.set id ⟨k.e,k.ver,cs⟩) { w with heap:=w.heap.setIfInBounds b (.map es' clock') }∧Below C.B w { w with heap:=w.heap.setIfInBounds b (.map es' clock') }:=by
 have hid:id<H.length:=(List.getElem?_eq_some_iff.1 hk).1
 have hbl:b<w.heap.size:=(Array.getElem?_eq_some_iff.1 hb).1
 have e1:=h.len
 have e2:=h.lenv
 have e3:=h.lenc
 have oth:∀ b',b'≠b→(w.heap.setIfInBounds b (.map es' clock'))[b']? =w.heap[b']? :=fun b' hne=>by rw [Array.getElem?_setIfInBounds_ne (by omega)]
 have hB:C.B≤b:=by
  rcases h.gho id k hk hm with ⟨h1,_⟩|⟨b',_,_,h1,h2,_⟩|⟨b',_,h1,h2,_⟩
  ·rw [hp] at h1;injection h1 with h1;omega
  ·rw [hp] at h1;injection h1 with h1;omega
  ·rw [hp] at h1;injection h1 with h1;omega
 refine ⟨⟨h.gl,?_,?_,?_,?_,?_,?_,?_,?_,?_,h.disj,h.inj,h.minj⟩,rfl,rfl,rfl,by simp,fun i hi=>oth i (by omega)⟩
 ·have:=h.base;simpa using this
 ·have:=h.tople;simpa using this
 ·intro b' o u hu
  have hc:=h.imm b' o u hu
  have hne:b'≠b:=by
   rintro rfl
   simp [World.cell?,hb] at hc
  simp only [World.cell?] at hc ⊢
  rw [oth b' hne];exact hc
 ·simp [e1]
 ·simp [e2]
 ·simp [e3]
 ·intro i k' hk'
  by_cases hi:i=id
  ·subst hi
   simp [hid] at hk'
   subst hk'
   exact h.ver i k hk
  ·rw [List.getElem?_set_ne (by omega)] at hk'
   exact h.ver i k' hk'
 ·intro i k' hk' hm'
  by_cases hi:i=id
  ·subst hi
   simp [hid] at hk'
   subst hk'
   exact .inr (.inl ⟨b,es',clock',hp,hB,by simp [hbl],hs,hR⟩)
  ·rw [List.getElem?_set_ne (by omega)] at hk'
   exact (h.gho i k' hk' hm').imp_right (fun m=>m.mono (.refl _) rfl (fun b2 es2 c2 hp2 hb2=>by
    have hne:b2≠b:=by
     rintro rfl
     exact hi (h.minj i id b2 hm' hm hp2 hp)
    rw [oth b2 hne];exact hb2))
 ·intro i k' b' hk' hm'
  by_cases hi:i=id
  ·subst hi
   rw [hm] at hm'
   cases hm'
  ·rw [List.getElem?_set_ne (by omega)] at hk'
   obtain ⟨c,q3,q4,q5,q6,q7,q8⟩:=h.own i k' b' hk' hm'
   have hne:b'≠b:=by
    rintro rfl
    rw [hb] at q5;cases q5
   exact ⟨c,q3,q4,by rw [oth b' hne];exact q5,q6,q7,q8⟩
end Go.Proofs.YtjgmdlcjbgiekaaGreatDoor.Pm
