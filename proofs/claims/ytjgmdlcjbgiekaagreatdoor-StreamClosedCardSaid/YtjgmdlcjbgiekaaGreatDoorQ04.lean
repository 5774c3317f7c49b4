/-
  Parts of the proof, put together in one text. No condition.
-/
import Derived.Test.YtjgmdlcjbgiekaaGreatDoorQ03
import Derived.Lib.AppendZeros
namespace Go.Proofs.YtjgmdlcjbgiekaaGreatDoor.Pm
set_option linter.all false
open Go.RowKit
variable {P:Program} {C:Ctx} {H:za} {w:World} {F:Nat→PV} {a:Act} {N:Nat}
theorem zcH {v:PV} {u:Value} (h:v.cells.all PV.cell=true) (hv:VRel C v u):Rel C v.cells u.cells.toList∧u.cells.toList.length=v.cells.length:=by
 have single:v.cell=true→v.cells=[v]→Rel C v.cells u.cells.toList∧u.cells.toList.length=v.cells.length:=fun hc he=>by
  have h1:=hv.oneCell hc
  have hcells:u.cells= #[u]:=by cases u<;>first|rfl|(simp [Value.oneCell'] at h1)
  rw [he,hcells]
  exact ⟨.one hv,rfl⟩
 cases v with
 | agg cs=>
  cases hv with
  | agg hl hc hR=>exact ⟨by simpa [PV.cells,Value.cells,Rel] using hR,by simp [PV.cells,Value.cells,hl]⟩
 | _=>first|exact single rfl rfl|(simp [PV.cells,PV.cell] at h)
theorem zjZ:∀ (vs:List Value) (k:Nat) (cs:Array Value) (off:Nat),off+k+vs.length≤cs.size→
  (((vs.zipIdx k).foldl (fun (cs:Array Value) (x:Value×Nat)=>cs.setIfInBounds (off+x.2) x.1) cs)).toList=cs.toList.take (off+k)++vs++cs.toList.drop (off+k+vs.length)
 | [],k,cs,off,_=>by simp
 | v::rest,k,cs,off,h=>by
  simp only [List.zipIdx_cons,List.foldl_cons]
  rw [zjZ rest (k+1) _ off (by simp at h ⊢;omega)]
  have e:=list_seg_step cs.toList (off+k) v rest (by simp at h ⊢;omega)
  simpa [Array.toList_setIfInBounds,Nat.add_assoc] using e
theorem zbG (place:Nat→Option (Nat×Nat)):∀ (parts:List (Nat×PV)) (parts':List (Nat×Value)) (zs ys:List PV) (cs:Array Value),parts'.length=parts.length→
  (∀ (j:Nat) (p:Nat×PV) (q:Nat×Value),parts[j]? =some p→parts'[j]? =some q→q.1=p.1∧VRel C p.2 q.2)→Rel C zs cs.toList→zs.length=cs.size→(∀ x∈zs,x.cell=true)→
  zc9 place zs parts=some ys→∃ cs',Instr.fill place cs parts'=some cs'∧Rel C ys cs'.toList∧ys.length=cs'.size∧∀ x∈ys,x.cell=true
 | [],parts',zs,ys,cs,hl,_,hz,hzl,hzc,h=>by
  have:parts'=[]:=List.eq_nil_of_length_eq_zero (by simpa using hl)
  subst this
  simp only [zc9,Option.some.injEq] at h
  subst h
  exact ⟨cs,rfl,hz,hzl,hzc⟩
 | (i,v)::rest,[],zs,ys,cs,hl,_,_,_,_,_=>by simp at hl
 | (i,v)::rest,(i',u)::rest',zs,ys,cs,hl,hp,hz,hzl,hzc,h=>by
  obtain ⟨e0,hvu⟩:=hp 0 (i,v) (i',u) rfl rfl
  simp only at e0 hvu
  subst e0
  simp only [zc9] at h
  split at h
  ·cases h
  ·rename_i off size hpl
   split at h
   ·rename_i hq
    obtain ⟨hcr,hcl⟩:=zcH hq.2.2 hvu
    have hcl':u.cells.size=v.cells.length:=by simpa using hcl
    have hfold:=zjZ u.cells.toList 0 cs off (by simp;omega)
    simp only [Nat.add_zero] at hfold
    have hsp:=zgl (off:=off) hcl hz hcr (by omega) (by simp;omega)
    have hlen:(zO zs off v.cells).length=zs.length:=zdV _ _ _ (by omega)
    let cs2:Array Value:=(u.cells.toList.zipIdx 0).foldl (fun (cs:Array Value) (x:Value×Nat)=>cs.setIfInBounds (off+x.2) x.1) cs
    have h2:cs2.toList=cs.toList.take off++u.cells.toList++cs.toList.drop (off+u.cells.toList.length):=hfold
    have h2s:cs2.size=cs.size:=by rw [←Array.length_toList,h2];simp;omega
    obtain ⟨cs',e1,e2,e3,e4⟩:=zbG place rest rest' (zO zs off v.cells) ys cs2 (by simpa using hl) (fun j p q hj hj'=>hp (j+1) p q (by simpa using hj) (by simpa using hj'))
     (by rw [h2];exact hsp) (by rw [hlen,h2s];exact hzl) (zfp hzc (fun x hx=>List.all_eq_true.1 hq.2.2 x hx)) h
    refine ⟨cs',?_,e2,e3,e4⟩
    have hc1:¬ (u.cells.size≠size||off+u.cells.size>cs.size)=true:=by simp;omega
    simp only [Instr.fill,hpl,if_neg hc1]
    rw [←e1]
    congr 1
    show u.cells.zipIdx.foldl _ cs=cs2
    rw [←Array.foldl_toList,Array.toList_zipIdx]
   ·cases h
theorem zae {t:TypeId} {z:List PV} (h:zk P t=some z):∃ i zv,P.info? t=some i∧i.zero=some zv∧(∀ C:Ctx,Rel C z zv.cells.toList)∧zv.cells.toList.length=z.length∧∀ x∈z,x.cell=true:=by
 unfold zk zrT at h
 cases hi:P.info? t with
 | none=>simp [hi] at h
 | some i=>
  cases hz:i.zero with
  | none=>simp [hi,hz] at h
  | some zv=>
   simp only [hi,hz,Option.bind_some,Option.map_some] at h
   split at h
   ·rename_i hall
    injection h with h
    subst h
    exact ⟨i,zv,rfl,hz,fun C=>(zcH hall (zek zv)).1,(zcH (C:=⟨0,fun _ _=>none,[],[],[],0⟩) hall (zek zv)).2,fun x hx=>List.all_eq_true.1 hall x hx⟩
   ·cases h
theorem zhC:∀ (fs:List Field),fs.all (fun f=>(szT P f.type).isSome)=true→∃ places,fs.mapM (fun f=>(P.info? f.type).map fun i=>(f.offset,i.size))=some places∧∀ i,places[i]? =zav P fs i
 | [],_=>⟨[],by simp,fun i=>by simp [zav]⟩
 | f::fs,h=>by
  simp only [List.all_cons,Bool.and_eq_true] at h
  obtain ⟨ps,e1,e2⟩:=zhC fs h.2
  obtain ⟨n,hn⟩:=Option.isSome_iff_exists.1 h.1
  obtain ⟨i,hi,hs⟩:=zaV hn
  refine ⟨(f.offset,i.size)::ps,?_,?_⟩
  ·simp [List.mapM_cons,hi,e1]
  ·intro j
   cases j with
   | zero=>simp [zav,hn,hs]
   | succ j=>simpa [zav] using e2 j
theorem ze7 (r:FRel C N F a) (parts:Array (Nat×Operand)):((parts.map fun (i,x)=>(i,a.eval x)).toList).length=(parts.toList.map fun p=>(p.1,ev F p.2)).length∧
  ∀ (j:Nat) (p:Nat×PV) (q:Nat×Value),(parts.toList.map fun p=>(p.1,ev F p.2))[j]? =some p→((parts.map fun (i,x)=>(i,a.eval x)).toList)[j]? =some q→q.1=p.1∧VRel C p.2 q.2:=by
 refine ⟨by simp,fun j p q hp hq=> ?_⟩
 simp only [Array.toList_map,List.getElem?_map,Option.map_eq_some_iff] at hp hq
 obtain ⟨x,hx,rfl⟩:=hp
 obtain ⟨y,hy,rfl⟩:=hq
 rw [hx] at hy
 injection hy with hy
 subst hy
 exact ⟨rfl,zw r _⟩
theorem zim {t:TypeId} {parts:List (Nat×PV)} {parts':Array (Nat×Value)} {v:PV} (hl:parts'.toList.length=parts.length)
  (hp:∀ (j:Nat) (p:Nat×PV) (q:Nat×Value),parts[j]? =some p→parts'.toList[j]? =some q→q.1=p.1∧VRel C p.2 q.2) (h:zd3 P t parts=some v):
  ∃ u,VRel C v u∧(Instr.build t parts').run P w= .ok u w:=by
 unfold zd3 at h
 split at h
 ·rename_i fs z hu hz
  obtain ⟨i,zv,hi,hzv,hzr,hzl,hzc⟩:=zae hz
  split at h
  ·rename_i hall
   obtain ⟨ps,e1,e2⟩:=zhC fs.toList hall
   simp only [Option.map_eq_some_iff] at h
   obtain ⟨ys,hys,rfl⟩:=h
   have hpl:(fun x=>ps.toArray[x]?)=zav P fs.toList:=funext fun i=>by rw [←e2 i];simp
   obtain ⟨cs',q1,q2,q3,q4⟩:=zbG (C:=C) (zav P fs.toList) parts parts'.toList z ys zv.cells hl hp (hzr C) (by simpa using hzl.symm) hzc hys
   have hb:P.built t parts'.toList=some cs':=by
    unfold Program.built
    simp only [hi,hu,hzv,e1,hpl,q1]
   exact ⟨.agg cs',by simpa using VRel.agg (C:=C) (us:=cs'.toList) (by simpa using q3.symm) q4 q2,run_build w t parts' cs' hb⟩
  ·cases h
 ·rename_i len e z hu hz
  obtain ⟨i,zv,hi,hzv,hzr,hzl,hzc⟩:=zae hz
  split at h
  ·rename_i n hn
   obtain ⟨ie,hie,hs⟩:=zaV hn
   simp only [Option.map_eq_some_iff] at h
   obtain ⟨ys,hys,rfl⟩:=h
   obtain ⟨cs',q1,q2,q3,q4⟩:=zbG (C:=C) _ parts parts'.toList z ys zv.cells hl hp (hzr C) (by simpa using hzl.symm) hzc hys
   have hb:P.built t parts'.toList=some cs':=by
    unfold Program.built
    simp only [hi,hu,hzv,hie,hs,q1]
   exact ⟨.agg cs',by simpa using VRel.agg (C:=C) (us:=cs'.toList) (by simpa using q3.symm) q4 q2,run_build w t parts' cs' hb⟩
  ·cases h
 ·cases h
theorem zdS (z:List PV) (hz:0<z.length):∀ (n j:Nat),(zbE n z)[j]? =if j<n * z.length then z[j%z.length]? else none
 | 0,j=>by simp [zbE]
 | n+1,j=>by
  have e:zbE (n+1) z=z++zbE n z:=by simp [zbE,List.replicate_succ]
  rw [e]
  by_cases hj:j<z.length
  ·rw [List.getElem?_append_left hj,if_pos (by rw [Nat.add_mul];omega),Nat.mod_eq_of_lt hj]
  ·rw [List.getElem?_append_right (by omega),zdS z hz n]
   have e2:(n+1) * z.length=n * z.length+z.length:=by rw [Nat.add_mul];omega
   have e3:j%z.length=(j - z.length)%z.length:=by
    conv=>lhs;rw [show j=(j - z.length)+z.length by omega,Nat.add_mod_right]
   rw [e3]
   by_cases h2:j<(n+1) * z.length
   ·rw [if_pos (by omega),if_pos h2]
   ·rw [if_neg (by omega),if_neg h2]
theorem zaM (z:List PV) (n:Nat):(zbE n z).length=n * z.length:=by simp [zbE]
theorem zcx {z:List PV} {n:Nat} (h:∀ x∈z,x.cell=true):∀ x∈zbE n z,x.cell=true:=fun x hx=>by
 simp only [zbE,List.mem_flatten,List.mem_replicate] at hx
 obtain ⟨l,⟨_,rfl⟩,hx⟩:=hx
 exact h x hx
theorem zdo {z:List PV} {zv:Array Value} {n m:Nat} (hzl:zv.toList.length=z.length) (hz:Rel C z zv.toList) (hpos:0<z.length) (hm:n * z.length≤m):Rel C (zbE n z) ((Array.range m).map (zv[· %zv.size]!)).toList:=fun j x u hx hu=>by
 rw [zdS z hpos] at hx
 split at hx
 ·rename_i hj
  have hzs:zv.size=z.length:=by simpa using hzl
  have hjm:j<m:=by omega
  simp only [Array.toList_map,Array.toList_range,List.getElem?_map,List.getElem?_range hjm,Option.map_some,Option.some.injEq] at hu
  subst hu
  have hlt:j%zv.size<zv.size:=Nat.mod_lt _ (by omega)
  rw [getElem!_pos zv _ hlt]
  exact hz (j%zv.size) x _ (by rw [hzs];exact hx) (by simp [hlt])
 ·cases hx
theorem zeo {t:TypeId} {len:Nat} {parts:List (Nat×PV)} {parts':Array (Nat×Value)} {v:PV} (hw:WRel C H w) (hl:parts'.toList.length=parts.length)
  (hp:∀ (j:Nat) (p:Nat×PV) (q:Nat×Value),parts[j]? =some p→parts'.toList[j]? =some q→q.1=p.1∧VRel C p.2 q.2) (h:zck P t len parts=some v):
  ∃ C' u w',CLe C C'∧WRel C' H w'∧Below C.B w w'∧VRel C' v u∧(Instr.buildSlice t len parts').run P w= .ok u w':=by
 unfold zck at h
 split at h
 ·rename_i e hu
  split at h
  ·rename_i n z hn hz
   obtain ⟨i,zv,hi,hzv,hzr,hzl,hzc⟩:=zae hz
   obtain ⟨ie,hie,hs⟩:=zaV hn
   rw [hi] at hie
   injection hie with hie
   subst hie
   split at h
   ·rename_i h0
    injection h with h
    subst h
    obtain ⟨rfl,h0⟩:=h0
    have hp0:parts'.toList=[]:=List.eq_nil_of_length_eq_zero (by omega)
    obtain ⟨c1,c2,c3⟩:=hw.allocImm #[] e
    refine ⟨_,_,_,c1,c2,c3,.sliceN (some ⟨w.heap.size,0,none⟩) true,?_⟩
    simp [Instr.buildSlice,run_underlying hu,sizeOf,typeInfo,zeroValue,hi,hzv,hp0,Instr.fill,newRow]
    rw [show Array.map (fun _=>(default:Value)) (Array.range 0)= #[] from by apply Array.ext';simp]
   split at h
   ·rename_i hq
    simp only [Option.map_eq_some_iff] at h
    obtain ⟨ys,hys,rfl⟩:=h
    have hpos:0<z.length:=by
     rcases Nat.eq_zero_or_pos z.length with h0|h0
     ·rw [←hq.1,h0] at hq;simp at hq
     ·exact h0
    have hmade:=zdo (C:=C) (n:=len) (m:=len * i.size) hzl (hzr C) hpos (by rw [hs,hq.1];exact Nat.le_refl _)
    obtain ⟨cs',q1,q2,q3,q4⟩:=zbG (C:=C) (fun i=>some (i * n,n)) parts parts'.toList (zbE len z) ys ((Array.range (len * i.size)).map (zv.cells[· %zv.cells.size]!)) hl hp hmade
     (by rw [zaM,hq.1,hs];simp) (zcx hzc) hys
    have hr:=run_buildSlice (P:=P) w t e len parts' cs' i zv hu hi hzv (by rw [hs];have:=hq.2.2;omega) (by rw [hs];have:=hq.2.1;omega) (by rw [hs] at q1 ⊢;exact q1)
    obtain ⟨c1,c2,c3⟩:=hw.allocImm cs' e
    refine ⟨_,_,_,c1,c2,c3,?_,hr⟩
    refine VRel.slice (us:=cs'.toList) (o:=0) (by simpa using q3.symm) (fun j u hj=> ?_) q4 (q2.mono c1) (Nat.le_refl _) ?_ (fun _=>rfl)
    ·simp only [Ctx.imm,if_true,Nat.zero_add];simpa using hj
    ·have:len≤len * n:=Nat.le_mul_of_pos_right len (by omega)
     simp only [maxLen];omega
   ·cases h
  ·cases h
 ·cases h
theorem zeE {t:TypeId} {n:Nat} (h:byT P t=some n):∃ i,P.info? t=some i∧i.bytes=n:=by
 unfold byT at h
 cases hi:P.info? t with
 | none=>simp [hi] at h
 | some i=>simp [hi] at h;exact ⟨i,rfl,h⟩
theorem zjz {t:TypeId} {l c v:PV} {p q:Value} {H':za} (hw:WRel C H w) (hl:VRel C l p) (hc:VRel C c q) (h:zjA P H t l c=some (v,H')):
  ∃ C' u w',CLe C C'∧WRel C' H' w'∧Below C.B w w'∧VRel C' v u∧(Instr.makeSlice t p q).run P w= .ok u w':=by
 unfold zjA at h
 split at h
 ·rename_i e kl l kc c hu
  obtain rfl:=zK hl
  obtain rfl:=zK hc
  split at h
  ·rename_i n b z hn hb hz
   obtain ⟨i,zv,hi,hzv,hzr,hzl,hzc⟩:=zae hz
   obtain ⟨ie,hie,hs⟩:=zaV hn
   obtain ⟨ib,hib,hby⟩:=zeE hb
   rw [hi] at hie hib
   injection hie with hie
   injection hib with hib
   subst hie hib
   split at h
   ·rename_i hq
    simp only [Option.some.injEq,Prod.mk.injEq] at h
    obtain ⟨rfl,rfl⟩:=h
    have hr:=run_make (P:=P) w t e i zv hu hi hzv kl kc l c hq.1 hq.2.1 (by rw [hby];have:=hq.2.2.1;omega) (by have:=hq.2.2.2.1;omega)
    have hcn:l.toNat * z.length≤c.toNat * i.size:=by rw [hs,hq.2.2.2.2.1];exact Nat.mul_le_mul_right n (by omega)
    have hmade:=zdo (C:=C) (n:=l.toNat) (m:=c.toNat * i.size) hzl (hzr C) (by rw [hq.2.2.2.2.1];exact hq.2.2.2.2.2) hcn
    obtain ⟨c1,c2,c3⟩:=hw.allocOwn (madeCells zv.cells (c.toNat * i.size)) e (zbE l.toNat z) 0 (zcx hzc) (by rw [zaM,size_madeCells];exact hcn) (fun j x u hx hu=>hmade j x u hx (by rw [Array.getElem?_toList];exact hu))
    refine ⟨_,_,_,c1,c2,c3,?_,hr⟩
    refine .msl ?_ ?_ (by omega) (by have:=hq.2.2.2.1;simp only [maxLen];omega) (fun _=>⟨rfl,?_⟩)
    ·simp [Ctx.more,←hw.len]
    ·simp [Ctx.more,←hw.lenv]
    ·simp [Ctx.more,←hw.lenc,size_madeCells,hs]
   ·cases h
  ·cases h
 ·cases h
theorem zbT {sz n:Nat} {x:PV} {v:Value} {ys:List PV} (hw:WRel C H w) (hx:VRel C x v) (h:zaI H sz x=some (ys,n)):
  ∃ ad cap us,v= .slice ad n cap∧n≤cap∧us.length=ys.length∧ys.length=n * sz∧Rel C ys us∧(∀ x∈ys,x.cell=true)∧((n=0∧us=[])∨∃ b o,ad=some ⟨b,o,none⟩∧At w b o us):=by
 unfold zaI at h
 split at h
 ·rename_i xs len full
  split at h
  ·rename_i hq
   simp only [Option.some.injEq,Prod.mk.injEq] at h
   obtain ⟨rfl,rfl⟩:=h
   cases hx with
   | @slice _ _ cap b o _ us hl hM hc hR hcap hmax hf=>exact ⟨_,cap,us,rfl,hcap,hl,hq,hR,hc,.inr ⟨b,o,rfl,hw.at_imm hM⟩⟩
   | sliceN=>exact ⟨_,0,[],rfl,Nat.le_refl _,rfl,by simp,fun j x u hx=>by simp at hx,fun x hx=>by simp at hx,.inl ⟨rfl,rfl⟩⟩
  ·cases h
 ·rename_i id ver off len sz' g
  split at h
  ·rename_i k hk
   split at h
   ·rename_i hq
    simp only [Option.some.injEq,Prod.mk.injEq] at h
    obtain ⟨rfl,rfl⟩:=h
    have q2:=hw.ver _ k hk
    rw [hq.1] at q2
    obtain ⟨b,cap,off',q1,rfl,hc1,hc2,ho,_⟩|⟨ad,hgh,h0,rfl⟩:=zbg hw hx q2
    rotate_left
    ·subst h0
     exact ⟨ad,0,[],rfl,Nat.le_refl _,by simp,by simp,fun j x u hx=>by simp at hx,fun x hx=>by simp at hx,.inl ⟨rfl,rfl⟩⟩
    obtain ⟨cur,q3,q5,q6,q7,q8,q9,q10⟩:=hw.blk hk q1
    have hl1:((k.cells.drop off).take (len * sz)).length=len * sz:=by simp;omega
    refine ⟨_,cap,((cur.toList.take k.cells.length).drop off).take (len * sz),rfl,hc1,?_,hl1,(q9.drop off).take _,fun x hx=>q6 x (List.mem_of_mem_drop (List.mem_of_mem_take hx)),.inr ⟨b,off',rfl,?_⟩⟩
    ·rw [hl1];simp;omega
    ·rcases Nat.eq_zero_or_pos len with h0|h0
     ·subst h0;intro j u hu;simp at hu
     ·obtain rfl:=ho h0
      have:=(q8.drop off').take (len * sz)
      rwa [Nat.zero_add] at this
   ·cases h
  ·cases h
 ·cases h
theorem zcF {sz n cap:Nat} {ad:Option Addr} {us:List Value} (hl:us.length=n * sz) (h:(n=0∧us=[])∨∃ b o,ad=some ⟨b,o,none⟩∧At w b o us):
  (Builtin.firstCells sz n (.slice ad n cap)).run P w= .ok us.toArray w:=by
 rcases h with ⟨rfl,rfl⟩|⟨b,o,rfl,hat⟩
 ·cases ad with
  | none=>exact run_firstCells_none w sz 0 0 cap
  | some a=>exact run_firstCells_some w sz 0 a 0 cap [] hl (fun j v hv=>by simp at hv)
 ·exact run_firstCells_some w sz n ⟨b,o,none⟩ n cap us hl (fun j v hv=>by rw [Addr.add_lit];exact hat j v hv)
end Go.Proofs.YtjgmdlcjbgiekaaGreatDoor.Pm
namespace Go.Proofs.YtjgmdlcjbgiekaaGreatDoor.Pm
set_option linter.all false
open Go.RowKit
variable {P:Program} {C:Ctx} {H:za} {w:World} {F:Nat→PV} {a:Act} {N:Nat}
def App (P:Program) (i:TypeInfo) (z:Value) (tx:TypeId) (x:Value) (n:Nat) (news:List Value) (w:World):Prop:=
 Src P i.size tx x n news w∨∃ kn kq,P.underlying tx=some (.int kn)∧x= .int kq (n:Int)∧news=(Builtin.zeroCells z.cells n).toList∧n≤1048576∧z.cells.size=i.size
theorem zqH {t tx ty e:TypeId} {i:TypeInfo} {z:Value} (ht:P.underlying t=some (.slice e)) (hi:P.info? e=some i) (hz:i.zero=some z) {b off sLen sCap n:Nat} {x:Value} {news:List Value} {w':World}
  (ha:App P i z tx x n news w) (hroom:sLen+n≤sCap) (hby:n * i.bytes≤140737488355328) (hst:(storeCells ⟨b,off+sLen * i.size,none⟩ news).run P w= .ok () w'):
  (Builtin.append_ #[t,tx] ty #[.slice (some ⟨b,off,none⟩) sLen sCap,x]).run P w= .ok (.slice (some ⟨b,off,none⟩) (sLen+n) sCap) w':=by
 rcases ha with hs|⟨kn,kq,htn,rfl,rfl,hn,hsz⟩
 ·rcases hs.kind with ⟨e',hk⟩|hk<;>simp [Builtin.append_,run_underlying ht,run_underlying hk,sizeOf,typeInfo,hi,hs.len,hroom,hs.cells,Addr.add_lit,hst]
 ·have hw:IntKind.i64.wrap (n:Int)=n:=by rw [IntKind.wrap_i64];omega
  have h48i:¬ (281474976710656<(n:Int) * (i.bytes:Int)):=by rw [←Int.natCast_mul];omega
  have hneg:¬ ((n:Int)<0):=by omega
  by_cases hns:n * i.size=0
  ·have hz0:(Builtin.zeroCells z.cells n).toList=[]:=by
    apply List.eq_nil_of_length_eq_zero
    rw [Array.length_toList,size_zeroCells,hsz]
    exact hns
   rw [hz0] at hst
   have hns':n=0∨i.size=0:=Nat.mul_eq_zero.1 hns
   simp [Builtin.append_,run_underlying ht,run_underlying htn,sizeOf,typeInfo,hi,asInt,asIntOf,hw,hneg,hns,h48i,hroom,Addr.add_lit,hst]
  ·have hns':¬ (n=0∨i.size=0):=fun hh=>hns (Nat.mul_eq_zero.2 hh)
   simp [Builtin.append_,run_underlying ht,run_underlying htn,sizeOf,typeInfo,zeroValue,hi,hz,asInt,asIntOf,hw,hneg,hns,h48i,hroom,Addr.add_lit,hst]
theorem zdy {t tx ty e:TypeId} {i:TypeInfo} {z:Value} (ht:P.underlying t=some (.slice e)) (hi:P.info? e=some i) {base:Option Addr} {sLen sCap:Nat} {x:Value} {news:List Value}
  (ha:App P i z tx x 0 news w) (hle:sLen≤sCap):(Builtin.append_ #[t,tx] ty #[.slice base sLen sCap,x]).run P w= .ok (.slice base sLen sCap) w:=by
 rcases ha with hs|⟨kn,kq,htn,rfl,rfl,hn,hsz⟩
 ·have hnil:news=[]:=List.eq_nil_of_length_eq_zero (by simpa using hs.newsLen)
  subst hnil
  have hcells:=hs.cells
  rcases hs.kind with ⟨e',hk⟩|hk<;>cases base<;>simp [Builtin.append_,run_underlying ht,run_underlying hk,sizeOf,typeInfo,hi,hs.len,hle,hcells,storeCells]
 ·have hw:IntKind.i64.wrap 0=0:=by rw [IntKind.wrap_i64];omega
  cases base<;>simp [Builtin.append_,run_underlying ht,run_underlying htn,sizeOf,typeInfo,hi,asInt,asIntOf,hw,hle,storeCells]
theorem zke {t tx ty e:TypeId} {i:TypeInfo} {z:Value} (ht:P.underlying t=some (.slice e)) (hi:P.info? e=some i) (hz:i.zero=some z) {base:Option Addr} {sLen sCap n:Nat} {x:Value} {olds news:List Value}
  (hold:(Builtin.firstCells i.size sLen (.slice base sLen sCap)).run P w.drew= .ok olds.toArray w.drew) (ha:App P i z tx x n news w)
  (hg:sCap<sLen+n) (h47:(sLen+n) * i.bytes≤140737488355328) (hm:sLen+n≤140737488355328) (hs0:0<i.size):
  (Builtin.append_ #[t,tx] ty #[.slice base sLen sCap,x]).run P w= .ok (.slice (some ⟨w.heap.size,0,none⟩) (sLen+n) (grownCap w (sLen+n) sCap e))
    (w.drew.alloc (.cells ((olds++news).toArray++Builtin.zeroCells z.cells (grownCap w (sLen+n) sCap e - (sLen+n))) e)):=by
 have hfit:=growslice_fits hg h47
 rcases ha with hs|⟨kn,kq,htn,rfl,rfl,hn,hsz⟩
 ·exact run_append_grow_src w t tx ty e i z ht hi hz base sLen sCap olds hold x n news hs hg (by omega) hfit
 ·have hw:IntKind.i64.wrap (n:Int)=n:=by rw [IntKind.wrap_i64];omega
  have hnb:n * i.bytes≤(sLen+n) * i.bytes:=Nat.mul_le_mul_right _ (by omega)
  have hnr:¬ (sLen+n≤sCap):=by omega
  have h63':¬ (9223372036854775807<((sLen:Int)+(n:Int))):=by omega
  have h48':¬ (281474976710656<Builtin.nextslicecap (sLen+n) sCap * i.bytes):=by omega
  have h48i:¬ (281474976710656<(n:Int) * (i.bytes:Int)):=by rw [←Int.natCast_mul];omega
  have hneg:¬ ((n:Int)<0):=by omega
  rcases Nat.eq_zero_or_pos n with h0|h0
  ·subst h0
   have hz0:(Builtin.zeroCells z.cells 0).toList=[]:=by
    apply List.eq_nil_of_length_eq_zero
    rw [Array.length_toList,size_zeroCells]
    simp
   rw [hz0]
   simp only [Nat.add_zero] at hnr h48' ⊢
   have h63'':¬ (9223372036854775807<(sLen:Int)):=by omega
   have hw0:IntKind.i64.wrap 0=0:=by rw [IntKind.wrap_i64];omega
   simp [Builtin.append_,run_underlying ht,run_underlying htn,sizeOf,typeInfo,zeroValue,hi,hz,asInt,asIntOf,hw0,hnr,h63'',h48',Question.forced,hold,newRow,grownCap]
  ·have hns:¬ (n * i.size=0):=Nat.mul_ne_zero (by omega) (by omega)
   have hns':¬ (n=0∨i.size=0):=fun hh=>hns (Nat.mul_eq_zero.2 hh)
   simp [Builtin.append_,run_underlying ht,run_underlying htn,sizeOf,typeInfo,zeroValue,hi,hz,asInt,asIntOf,hw,hnr,hneg,hns,h63',h48',h48i,Question.forced,hold,newRow,grownCap]
   congr 2
   apply Array.ext'
   simp [List.append_assoc]
theorem znH {z:List PV} {zv:Value} {n:Nat} (hzl:zv.cells.toList.length=z.length) (hz:Rel C z zv.cells.toList) (hpos:0<z.length):Rel C (zbE n z) (Builtin.zeroCells zv.cells n).toList:=by
 have hs:zv.cells.size=z.length:=by simpa using hzl
 have:=zdo (C:=C) (n:=n) (m:=n * zv.cells.size) hzl hz hpos (by rw [hs];exact Nat.le_refl _)
 exact this
theorem zeH {e sz n:Nat} {tx:TypeId} {x:PV} {v:Value} {news:List PV} {i:TypeInfo} {zv:Value} {z:List PV} (hw:WRel C H w) (hx:VRel C x v) (hi:P.info? e=some i) (hs:i.size=sz) (hz:i.zero=some zv)
  (hzc:zk P e=some z) (hzl':z.length=sz) (hpos:0<sz) (h:zbi P H e sz tx x=some (news,n)):
  ∃ us,App P i zv tx v n us w∧Rel C news us∧us.length=news.length∧news.length=n * sz∧∀ x∈news,x.cell=true:=by
 unfold zbi at h
 split at h
 ·rename_i e' hu
  obtain ⟨ad,cap,us,rfl,hcap,hl,hn,hR,hc,hat⟩:=zbT hw hx h
  refine ⟨us,.inl ⟨.inl ⟨e',hu⟩,fun _=>rfl,?_,?_,by rw [hl,hn,hs],hR.oneCell hl hc⟩,hR,hl,hn,hc⟩
  ·rw [hs];exact zcF (by omega) hat
  ·rw [hs];exact zcF (w:=w.drew) (by omega) (by rcases hat with h1|⟨b,o,h1,h2⟩;exact .inl h1;exact .inr ⟨b,o,h1,h2⟩)
 ·rename_i kn k nn hu
  rw [hzc] at h
  simp only at h
  split at h
  ·rename_i hq
   simp only [Option.some.injEq,Prod.mk.injEq] at h
   obtain ⟨rfl,rfl⟩:=h
   obtain rfl:=zK hx
   obtain ⟨i',zv',hi',hzv',hzr,hzl,hzcc⟩:=zae hzc
   rw [hi] at hi'
   injection hi' with hi'
   subst hi'
   rw [hz] at hzv'
   injection hzv' with hzv'
   subst hzv'
   have hsz:zv.cells.size=sz:=by rw [←Array.length_toList,hzl,hzl']
   refine ⟨(Builtin.zeroCells zv.cells nn.toNat).toList,.inr ⟨kn,k,hu,by congr 1;omega,rfl,by omega,by rw [hsz,hs]⟩,znH hzl (hzr C) (by omega),?_,?_,zcx hzcc⟩
   ·rw [Array.length_toList,size_zeroCells,zaM,hsz,hzl']
   ·rw [zaM,hzl']
  ·cases h
 ·rename_i s hu
  split at h
  ·rename_i h1
   simp only [Option.some.injEq,Prod.mk.injEq] at h
   obtain ⟨rfl,rfl⟩:=h
   obtain ⟨s',rfl,rfl⟩:=zbf hx
   have hsz:s'.size=s'.data.toList.length:=by rw [Array.length_toList];rfl
   refine ⟨byteCells s',.inl ?_,?_,?_,?_,?_⟩
   ·rw [hs,h1,←hsz];exact Src.ofString w hu s'
   ·intro j x u hx hu
    simp only [byteCells,List.getElem?_map,Option.map_eq_some_iff] at hx hu
    obtain ⟨b,hb,rfl⟩:=hx
    obtain ⟨b',hb',rfl⟩:=hu
    rw [hb] at hb'
    injection hb' with hb'
    subst hb'
    exact .int _ _
   ·simp [byteCells]
   ·simp [h1]
   ·intro x hx
    obtain ⟨b,_,rfl⟩:=List.mem_map.1 hx
    rfl
  ·cases h
 ·cases h
theorem zhi {t tx ty:TypeId} {s x v:PV} {p q:Value} {H':za} (hw:WRel C H w) (hsv:VRel C s p) (hx:VRel C x q) (h:zaJ P H t tx s x=some (v,H')):
  ∃ C' u w',CLe C C'∧WRel C' H' w'∧Below C.B w w'∧VRel C' v u∧(Builtin.append_ #[t,tx] ty #[p,q]).run P w= .ok u w':=by
 unfold zaJ at h
 split at h
 ·rename_i e hu
  split at h
  ·rename_i sz b z hn hb hz
   split at h
   ·rename_i hpz
    obtain ⟨i,zv,hi,hzv,hzr,hzl,hzc⟩:=zae hz
    obtain ⟨ie,hie,hs⟩:=zaV hn
    obtain ⟨ib,hib,hby⟩:=zeE hb
    rw [hi] at hie hib
    injection hie with hie
    injection hib with hib
    subst hie hib
    split at h
    ·rename_i news n hsrc
     obtain ⟨us,happ,hRn,hln,hnn,hcn⟩:=zeH hw hx hi hs hzv hz hpz.2 hpz.1 hsrc
     have hzsize:∀ m,(Builtin.zeroCells zv.cells m).size=m * sz:=fun m=>by
      rw [size_zeroCells,←Array.length_toList,hzl,hpz.2]
     have grown:∀ (xs:List PV) (len cap:Nat) (ad:Option Addr) (os:List Value),os.length=xs.length→xs.length=len * sz→Rel C xs os→cap<len+n→(len+n) * b≤140737488355328→len+n≤140737488355328→
       ((len=0∧os=[])∨∃ b o,ad=some ⟨b,o,none⟩∧At w b o os)→
       ∃ cur nc,(Builtin.append_ #[t,tx] ty #[.slice ad len cap,q]).run P w= .ok (.slice (some ⟨w.heap.size,0,none⟩) (len+n) nc) (w.drew.alloc (.cells cur e))∧Rel C (xs++news) cur.toList∧
        (xs++news).length≤cur.size∧cur.size=nc * sz∧len+n≤nc∧nc≤maxLen:=by
      intro xs len cap ad os hos hxs hR hg h47 hm hat
      have hold:(Builtin.firstCells i.size len (.slice ad len cap)).run P w.drew= .ok os.toArray w.drew:=by
       rw [hs];exact zcF (w:=w.drew) (by omega) (by rcases hat with h1|⟨b,o,h1,h2⟩;exact .inl h1;exact .inr ⟨b,o,h1,h2⟩)
      have hr:=zke (P:=P) (ty:=ty) hu hi hzv hold happ hg (by rw [hby];exact h47) hm (by rw [hs];exact hpz.1)
      have hge:=grownCap_ge w (len+n) cap e
      refine ⟨_,_,hr,?_,?_,?_,hge,grownCap_le_maxLen w _ _ _ (by simp only [maxLen];omega)⟩
      ·intro j x u hx hu'
       have hlt:j<(xs++news).length:=(List.getElem?_eq_some_iff.1 hx).1
       refine Rel.append hos hR hRn j x u hx ?_
       rw [Array.toList_append,List.getElem?_append_left (by simp at hlt ⊢;omega)] at hu'
       exact hu'
      ·simp;omega
      ·rw [Array.size_append,hzsize]
       simp only [List.size_toArray,List.length_append,hos,hxs,hln,hnn,←Nat.add_mul]
       congr 1
       omega
     split at h
     ·rename_i xs len full
      split at h
      ·rename_i h0
       subst h0
       simp only [Option.some.injEq,Prod.mk.injEq] at h
       obtain ⟨rfl,rfl⟩:=h
       have hle:∃ ad cap,p= .slice ad len cap∧len≤cap:=by
        cases hsv with
        | slice _ _ _ _ hcap _ _=>exact ⟨_,_,rfl,hcap⟩
        | sliceN=>exact ⟨_,_,rfl,Nat.le_refl _⟩
       obtain ⟨ad,cap,rfl,hle⟩:=hle
       exact ⟨C,_,w,.refl _,hw,.refl _ _,hsv,zdy hu hi happ hle⟩
      ·rename_i h0
       split at h
       ·rename_i hq
        simp only [Option.some.injEq,Prod.mk.injEq] at h
        obtain ⟨rfl,rfl⟩:=h
        have hshape:∃ ad os,p= .slice ad len len∧os.length=xs.length∧Rel C xs os∧(∀ x∈xs,x.cell=true)∧((len=0∧os=[])∨∃ b o,ad=some ⟨b,o,none⟩∧At w b o os):=by
         cases hsv with
         | @slice _ _ cap b' o' _ us' hl' hM' hc' hR' hcap' hmax' hf'=>rw [hf' hq.1];exact ⟨_,us',rfl,hl',hR',hc',.inr ⟨b',o',rfl,hw.at_imm hM'⟩⟩
         | sliceN=>exact ⟨_,[],rfl,rfl,fun j x u hx=>by simp at hx,fun x hx=>by simp at hx,.inl ⟨rfl,rfl⟩⟩
        obtain ⟨ad,os,rfl,hos,hRx,hcx,hat⟩:=hshape
        obtain ⟨cur,nc,hr,r1,r2,r3,r4,r5⟩:=grown xs len len ad os hos hq.2.1 hRx (by omega) hq.2.2.1 hq.2.2.2 hat
        obtain ⟨c1,c2,c30⟩:=hw.drew.allocOwn cur e (xs++news) (xs++news).length (fun x hx=>by rcases List.mem_append.1 hx with hx|hx;exact hcx x hx;exact hcn x hx) r2 (fun j x u hx hu=>r1 j x u hx (by simpa using hu))
        have c3:=((Below.refl C.B w).drew).trans c30
        refine ⟨_,_,_,c1,c2,c3,?_,hr⟩
        refine .msl ?_ ?_ r4 r5 (fun _=>⟨rfl,?_⟩)
        ·simp [Ctx.more,←hw.len]
        ·simp [Ctx.more,←hw.lenv]
        ·simp [Ctx.more,←hw.lenc,r3]
       ·cases h
     ·rename_i id ver off len sz' g
      split at h
      ·rename_i k hk
       split at h
       ·rename_i hq
        obtain ⟨hver,hgt,hoff,hsz,hke,hkl,hvl,h47,hmx⟩:=hq
        subst hver hgt hoff hsz
        have hid:id<H.length:=(List.getElem?_eq_some_iff.1 hk).1
        obtain ⟨bb,cap,off',q1,rfl,hc1,hc2,ho,hg⟩|⟨ad,hgh,hl0,rfl⟩:=zbg hw hsv (hw.ver id k hk)
        rotate_left
        ·subst hl0
         split at h
         ·rename_i h0
          subst h0
          simp only [Option.some.injEq,Prod.mk.injEq] at h
          obtain ⟨rfl,rfl⟩:=h
          exact ⟨C,_,w,.refl _,hw,.refl _ _,hsv,zdy hu hi happ (Nat.le_refl _)⟩
         ·rename_i h0
          simp only [Option.some.injEq,Prod.mk.injEq] at h
          obtain ⟨rfl,rfl⟩:=h
          subst hke
          have hnil:k.cells=[]:=List.eq_nil_of_length_eq_zero (by omega)
          have hnp:0<news.length:=by rw [hnn];exact Nat.mul_pos (by omega) hpz.1
          obtain ⟨cur',nc,hr,r1,r2,r3,r4,r5⟩:=grown k.cells 0 0 ad [] (by simp [hnil]) (by simp [hnil]) (by rw [hnil];exact fun j x u hx=>by simp at hx) (by omega) h47 hmx (.inl ⟨rfl,rfl⟩)
          obtain ⟨c1,c2,c30⟩:=hw.drew.move hk (k.cells++news).length (by rw [List.length_append];omega) (k.cells++news) cur' (fun x hx=>by rcases List.mem_append.1 hx with hx|hx;(rw [hnil] at hx;cases hx);exact hcn x hx) r2 (fun j x u hx hu=>r1 j x u hx (by simpa using hu))
          have c3:=((Below.refl C.B w).drew).trans c30
          refine ⟨_,_,_,c1,c2,c3,?_,hr⟩
          refine .msl (b:=w.heap.size) ?_ ?_ r4 r5 (fun _=>⟨rfl,?_⟩)
          ·show (C.mu.set id (some w.heap.size))[id]? =_
           simp [hw.len,hid]
          ·simp [hw.lenv,hid]
          ·simp [hw.lenc,hid,r3]
        obtain ⟨cur,q3,q5,q6,q7,q8,q9,q10⟩:=hw.blk hk q1
        have q2:=hw.ver id k hk
        obtain ⟨_,rfl,hcp⟩:=hg rfl
        rw [q3] at hcp
        injection hcp with hcp
        split at h
        ·rename_i h0
         subst h0
         simp only [Option.some.injEq,Prod.mk.injEq] at h
         obtain ⟨rfl,rfl⟩:=h
         exact ⟨C,_,w,.refl _,hw,.refl _ _,hsv,zdy hu hi happ hc1⟩
        ·rename_i h0
         simp only [Option.some.injEq,Prod.mk.injEq] at h
         obtain ⟨rfl,rfl⟩:=h
         subst hke
         have hRk:Rel C k.cells cur.toList:=by
          obtain ⟨cur2,_,_,r5,_,_,r8⟩:=hw.own id k bb hk q1
          rw [q5] at r5
          injection r5 with r5
          injection r5 with r5
          subst r5
          exact fun j x u hx hu=>r8 j x u hx (by simpa using hu)
         by_cases hroom:len+n≤cap
         ·have hfit:len * sz'+us.length≤cur.size:=by
           rw [hcp,hln,hnn,←Nat.add_mul]
           exact Nat.mul_le_mul_right _ hroom
          have hst:=run_storeCells_at P bb (len * sz') k.e us 0 cur w q5 (by omega) (hRn.oneCell hln hcn)
          rw [Nat.add_zero] at hst
          have hr:=zqH (P:=P) (t:=t) (tx:=tx) (ty:=ty) (b:=bb) (off:=0) (sLen:=len) (sCap:=cap) hu hi hzv happ hroom
           (by rw [hby];exact Nat.le_trans (Nat.mul_le_mul_right _ (by omega)) h47) (by rw [Nat.zero_add,hs];exact hst)
          have hsize:(cur.toList.take (len * sz')++us++cur.toList.drop (len * sz'+us.length)).toArray.size=cur.size:=by simp;omega
          obtain ⟨c1,c2,c3⟩:=hw.write hk q1 q5 (k.cells++news).length (by rw [List.length_append];omega) (k.cells++news) (cur.toList.take (len * sz')++us++cur.toList.drop (len * sz'+us.length)).toArray hsize
           (fun x hx=>by rcases List.mem_append.1 hx with hx|hx;exact q6 x hx;exact hcn x hx) (by rw [hsize];simp;omega) (fun j x u hx hu=>by
            have hlt:j<(k.cells++news).length:=(List.getElem?_eq_some_iff.1 hx).1
            have hu2:(cur.toList.take (len * sz')++us++cur.toList.drop (len * sz'+us.length))[j]? =some u:=by simpa using hu
            rw [List.getElem?_append_left (by simp at hlt ⊢;omega)] at hu2
            refine Rel.append (C:=C) (by simp;omega) (us:=cur.toList.take (len * sz')) ?_ hRn j x u hx hu2
            rw [←hkl];exact q9)
          refine ⟨_,_,_,c1,c2,c3,?_,hr⟩
          refine .msl q1 ?_ hroom hc2 (fun _=>⟨rfl,?_⟩)
          ·simp [hw.lenv,hid]
          ·show C.cp[id]? =_;rw [q3,hcp]
         ·obtain ⟨cur',nc,hr,r1,r2,r3,r4,r5⟩:=grown k.cells len cap (some ⟨bb,0,none⟩) (cur.toList.take k.cells.length) q10 hkl q9 (by omega) h47 hmx (.inr ⟨bb,0,rfl,q8⟩)
          obtain ⟨c1,c2,c30⟩:=hw.drew.move hk (k.cells++news).length (by rw [List.length_append];exact Nat.lt_of_le_of_lt hvl (Nat.lt_add_of_pos_right (by rw [hnn];exact Nat.mul_pos (by omega) hpz.1))) (k.cells++news) cur' (fun x hx=>by rcases List.mem_append.1 hx with hx|hx;exact q6 x hx;exact hcn x hx) r2 (fun j x u hx hu=>r1 j x u hx (by simpa using hu))
          have c3:=((Below.refl C.B w).drew).trans c30
          refine ⟨_,_,_,c1,c2,c3,?_,hr⟩
          refine .msl ?_ ?_ r4 r5 (fun _=>⟨rfl,?_⟩)
          ·simp [hw.len,hid]
          ·simp [hw.lenv,hid]
          ·simp [hw.lenc,hid,r3]
       ·cases h
      ·cases h
     ·cases h
    ·cases h
   ·cases h
  ·cases h
 ·cases h
end Go.Proofs.YtjgmdlcjbgiekaaGreatDoor.Pm
