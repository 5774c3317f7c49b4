/-
  Parts of the proof, put together in one text. No condition.
-/
import Derived.Test.YtjgmdlcjbgiekaaGreatDoorQ02
namespace Go.Proofs.YtjgmdlcjbgiekaaGreatDoor.Pm
set_option linter.all false
open Go.RowKit
variable {P:Program} {C:Ctx} {H:za} {w:World} {F:Nat→PV} {a:Act} {N:Nat}
def Rel (C:Ctx) (xs:List PV) (us:List Value):Prop:=∀ (j:Nat) (x:PV) (u:Value),xs[j]? =some x→us[j]? =some u→VRel C x u
def At (w:World) (b o:Nat) (us:List Value):Prop:=∀ (j:Nat) (u:Value),us[j]? =some u→w.cell? ⟨b,o+j,none⟩=some u
theorem Rel.drop {xs:List PV} {us:List Value} (h:Rel C xs us) (n:Nat):Rel C (xs.drop n) (us.drop n):=fun j x u hx hu=>by
 rw [List.getElem?_drop] at hx hu
 exact h _ x u hx hu
theorem Rel.take {xs:List PV} {us:List Value} (h:Rel C xs us) (n:Nat):Rel C (xs.take n) (us.take n):=fun j x u hx hu=>by
 rw [List.getElem?_take] at hx hu
 split at hx
 ·rename_i hj;rw [if_pos hj] at hu;exact h _ x u hx hu
 ·cases hx
theorem At.drop {b o:Nat} {us:List Value} (h:At w b o us) (n:Nat):At w b (o+n) (us.drop n):=fun j u hu=>by
 rw [List.getElem?_drop] at hu
 have:=h _ u hu
 rwa [←Nat.add_assoc] at this
theorem At.take {b o:Nat} {us:List Value} (h:At w b o us) (n:Nat):At w b o (us.take n):=fun j u hu=>by
 rw [List.getElem?_take] at hu
 split at hu
 ·exact h _ u hu
 ·cases hu
theorem Rel.append {xs ys:List PV} {us ws:List Value} (hl:us.length=xs.length) (h:Rel C xs us) (h':Rel C ys ws):Rel C (xs++ys) (us++ws):=fun j x u hx hu=>by
 by_cases hj:j<xs.length
 ·rw [List.getElem?_append_left hj] at hx
  rw [List.getElem?_append_left (by omega)] at hu
  exact h j x u hx hu
 ·rw [List.getElem?_append_right (by omega)] at hx
  rw [List.getElem?_append_right (by omega),hl] at hu
  exact h' _ x u hx hu
theorem Rel.one {x:PV} {u:Value} (h:VRel C x u):Rel C [x] [u]:=fun j y v hy hv=>by
 cases j with
 | zero=>simp at hy hv;subst hy;subst hv;exact h
 | succ j=>simp at hy
theorem Rel.mono {C':Ctx} (hle:CLe C C') {xs:List PV} {us:List Value} (h:Rel C xs us):Rel C' xs us:=fun j x u hx hu=>(h j x u hx hu).mono hle
theorem Rel.oneCell {xs:List PV} {us:List Value} (h:Rel C xs us) (hl:us.length=xs.length) (hc:∀ x∈xs,x.cell=true):∀ u∈us,u.oneCell'=true:=by
 intro u hu
 obtain ⟨j,hj,rfl⟩:=List.getElem_of_mem hu
 have hjx:j<xs.length:=by omega
 exact (h j xs[j] us[j] (List.getElem?_eq_getElem hjx) (List.getElem?_eq_getElem hj)).oneCell (hc _ (List.getElem_mem hjx))
theorem At.load {b o:Nat} {us:List Value} (h:At w b o us):(loadCells ⟨b,o,none⟩ us.length).run P w= .ok us.toArray w:=
 run_loadCells_list w ⟨b,o,none⟩ us (fun j v hv=>by rw [Addr.add_lit];exact h j v hv)
theorem WRel.at_imm (hw:WRel C H w) {b o:Nat} {us:List Value} (h:∀ (j:Nat) (u:Value),us[j]? =some u→C.M b (o+j)=some u):At w b o us:=fun j u hu=>hw.imm _ _ _ (h j u hu)
theorem zqB {b:Nat} {cur:Array Value} {e:TypeId} {fr:Nat×Nat} (hb:w.heap[b]? =some (.cells cur e fr)):At w b 0 cur.toList:=fun j u hu=>by
 simp only [World.cell?,hb,Nat.zero_add]
 simpa using hu
theorem WRel.blk (hw:WRel C H w) {id:Nat} {k:Blk} {b:Nat} (hk:H[id]? =some k) (hm:C.mu[id]? =some (some b)):∃ cur,C.cp[id]? =some cur.size∧w.heap[b]? =some (.cells cur k.e (0,0))∧
  (∀ x∈k.cells,x.cell=true)∧k.cells.length≤cur.size∧At w b 0 (cur.toList.take k.cells.length)∧Rel C k.cells (cur.toList.take k.cells.length)∧(cur.toList.take k.cells.length).length=k.cells.length:=by
 obtain ⟨cur,q3,_,q5,q6,q7,q8⟩:=hw.own id k b hk hm
 refine ⟨cur,q3,q5,q6,q7,(zqB q5).take _,fun j x u hx hu=> ?_,by simp;omega⟩
 rw [List.getElem?_take] at hu
 split at hu
 ·exact q8 j x u hx (by simpa using hu)
 ·cases hu
theorem zcJ {t:TypeId} {b:Bool} (h:zci P t=some b):(isAgg t).run P w= .ok b w:=by
 unfold zci at h
 unfold isAgg
 split at h
 ·rename_i hu;injection h with h;subst h;simp [run_underlying hu]
 ·rename_i hu;injection h with h;subst h;simp [run_underlying hu]
 ·rename_i d h1 h2 hu
  injection h with h
  subst h
  simp only [Sem.run_bind,run_underlying hu,Result.andThen_ok]
  cases d<;>first|rfl|(exact absurd rfl (h1 _))|(exact absurd rfl (h2 _ _))
 ·cases h
theorem zW {t:TypeId} {n:Nat} (h:szT P t=some n):(sizeOf t).run P w= .ok n w:=by
 unfold szT at h
 cases hi:P.info? t with
 | none=>simp [hi] at h
 | some i=>simp [hi] at h;simp [sizeOf,typeInfo,hi,h]
theorem zaV {t:TypeId} {n:Nat} (h:szT P t=some n):∃ i,P.info? t=some i∧i.size=n:=by
 unfold szT at h
 cases hi:P.info? t with
 | none=>simp [hi] at h
 | some i=>simp [hi] at h;exact ⟨i,rfl,h⟩
theorem zgu {t:TypeId} {b o off:Nat} {xs:List PV} {us:List Value} {v:PV} (hl:us.length=xs.length) (hat:At w b o us) (hc:∀ x∈xs,x.cell=true) (hR:Rel C xs us)
  (h:rd P t xs off=some v):∃ u,VRel C v u∧(loadVar t ⟨b,o+off,none⟩).run P w= .ok u w:=by
 unfold rd at h
 split at h
 ·rename_i ha
  split at h
  ·rename_i n hn
   split at h
   ·rename_i hle
    injection h with h
    subst h
    have hlen:((us.drop off).take n).length=n:=by simp;omega
    refine ⟨.agg ((us.drop off).take n).toArray,.agg (by simp;omega) (fun x hx=>hc x (List.mem_of_mem_drop (List.mem_of_mem_take hx))) ((hR.drop off).take n),?_⟩
    have hld:=((hat.drop off).take n).load (P:=P)
    rw [hlen] at hld
    simp [loadVar,zcJ ha,zW hn,hld]
   ·cases h
  ·cases h
 ·rename_i ha
  have hlt:off<us.length:=by
   have:=(List.getElem?_eq_some_iff.1 h).1
   omega
  refine ⟨us[off],hR off v us[off] h (List.getElem?_eq_getElem hlt),?_⟩
  have hcell:=hat off us[off] (List.getElem?_eq_getElem hlt)
  simp [loadVar,zcJ ha,hcell]
 ·cases h
theorem zbp {t:TypeId} {off:Nat} {xs:List PV} {us:List Value} {v:PV} (hl:us.length=xs.length) (hc:∀ x∈xs,x.cell=true) (hR:Rel C xs us)
  (h:rd P t xs off=some v):∃ u,VRel C v u∧(part t us.toArray off).run P w= .ok u w:=by
 unfold rd at h
 split at h
 ·rename_i ha
  split at h
  ·rename_i n hn
   split at h
   ·rename_i hle
    injection h with h
    subst h
    refine ⟨.agg ((us.drop off).take n).toArray,.agg (by simp;omega) (fun x hx=>hc x (List.mem_of_mem_drop (List.mem_of_mem_take hx))) ((hR.drop off).take n),?_⟩
    simp only [part,Sem.run_bind,zcJ ha,zW hn,Result.andThen_ok,if_true,Sem.run_pure]
    congr 2
    apply Array.ext'
    simp [List.extract_eq_take_drop]
   ·cases h
  ·cases h
 ·rename_i ha
  have hlt:off<us.length:=by
   have:=(List.getElem?_eq_some_iff.1 h).1
   omega
  refine ⟨us[off],hR off v us[off] h (List.getElem?_eq_getElem hlt),?_⟩
  simp [part,zcJ ha,List.getElem?_eq_getElem hlt]
 ·cases h
theorem zfs {t:TypeId} {x v:PV} {p:Value} (hw:WRel C H w) (hx:VRel C x p) (h:zc8 P H t x=some v):∃ u,VRel C v u∧(Instr.loadAt t p).run P w= .ok u w:=by
 unfold zc8 at h
 split at h
 ·unfold ztk at h
  split at h
  ·rename_i g
   split at h
   ·rename_i l hg
    have hp:VRel C (.ip (l.map fun x=>.int x.1 x.2) 0) (.pointer (some ⟨g,0+0,none⟩)):=.ip (us:=l.map fun x=>.int x.1 x.2) (by simp) (fun j u hu=>by
     rw [List.getElem?_map] at hu
     obtain ⟨y,hy,rfl⟩:=Option.map_eq_some_iff.1 hu
     rw [Nat.zero_add]
     exact hw.gl g l hg j y hy) (fun x hx=>by
     obtain ⟨y,_,rfl⟩:=List.mem_map.1 hx
     rfl) (fun j x u hx hu=>by
     rw [List.getElem?_map] at hx hu
     obtain ⟨y,hy,rfl⟩:=Option.map_eq_some_iff.1 hx
     rw [hy] at hu
     injection hu with hu
     rw [←hu]
     exact .int _ _)
    cases hx
    cases hp with
    | ip hl hM hc hR=>
     obtain ⟨u,hu,hr⟩:=zgu (P:=P) (t:=t) hl (hw.at_imm hM) hc hR h
     exact ⟨u,hu,by simp [Instr.loadAt,Instr.sureAddr,nlV] at hr ⊢;simpa using hr⟩
   ·cases h
  ·cases h
 ·cases hx with
  | ip hl hM hc hR=>
   obtain ⟨u,hu,hr⟩:=zgu (P:=P) (t:=t) hl (hw.at_imm hM) hc hR h
   exact ⟨u,hu,by simp [Instr.loadAt,Instr.sureAddr,hr]⟩
 ·split at h
  ·rename_i k hk
   split at h
   ·rename_i hver
    subst hver
    obtain ⟨b,q1,rfl⟩:=zby hw hx (hw.ver _ k hk)
    obtain ⟨cur,q3,q5,q6,q7,q8,q9,q10⟩:=hw.blk hk q1
    obtain ⟨u,hu,hr⟩:=zgu (P:=P) (t:=t) q10 q8 q6 q9 h
    rw [Nat.zero_add] at hr
    exact ⟨u,hu,by simp [Instr.loadAt,Instr.sureAddr,hr]⟩
   ·cases h
  ·cases h
 ·cases h
theorem zhc (xs:List PV) (off:Nat) (v:PV) (h:off<xs.length):xs.set off v=zO xs off [v]:=by
 unfold zO
 rw [List.set_eq_take_append_cons_drop,if_pos h]
 simp
theorem zdV (xs ys:List PV) (off:Nat) (h:off+ys.length≤xs.length):(zO xs off ys).length=xs.length:=by
 simp [zO];omega
theorem zgl {xs ys:List PV} {cur us:List Value} {off:Nat} (hl:us.length=ys.length) (hx:Rel C xs cur) (hy:Rel C ys us) (hoff:off+ys.length≤xs.length) (hxl:xs.length≤cur.length):
  Rel C (zO xs off ys) (cur.take off++us++cur.drop (off+us.length)):=by
 unfold zO
 refine Rel.append (by simp;omega) (Rel.append (by simp;omega) (hx.take off) hy) ?_
 rw [hl]
 exact hx.drop _
theorem zfp {xs ys:List PV} {off:Nat} (hx:∀ x∈xs,x.cell=true) (hy:∀ x∈ys,x.cell=true):∀ x∈zO xs off ys,x.cell=true:=by
 intro x h
 unfold zO at h
 simp only [List.mem_append] at h
 rcases h with (h|h)|h
 ·exact hx x (List.mem_of_mem_take h)
 ·exact hy x h
 ·exact hx x (List.mem_of_mem_drop h)
theorem WRel.store (hw:WRel C H w) {id b off:Nat} {k:Blk} {cur:Array Value} (hk:H[id]? =some k) (hm:C.mu[id]? =some (some b)) (hb:w.heap[b]? =some (.cells cur k.e (0,0)))
  (ys:List PV) (us:List Value) (hl:us.length=ys.length) (hc:∀ x∈ys,x.cell=true) (hy:Rel C ys us) (hoff:off+ys.length≤k.cells.length):
  ∃ C' w',CLe C C'∧WRel C' (H.set id ⟨k.e,k.ver,zO k.cells off ys⟩) w'∧Below C.B w w'∧(storeCells ⟨b,off,none⟩ us).run P w= .ok () w':=by
 obtain ⟨cur',p3,p5,p6,p7,p8,p9,p10⟩:=hw.blk hk hm
 rw [hb] at p5
 injection p5 with p5
 injection p5 with p5
 subst p5
 have hrel:Rel C k.cells cur.toList:=by
  obtain ⟨cur2,_,_,r5,_,_,r8⟩:=hw.own id k b hk hm
  rw [hb] at r5
  injection r5 with r5
  injection r5 with r5
  subst r5
  exact fun j x u hx hu=>r8 j x u hx (by simpa using hu)
 have hst:=run_storeCells_at P b off k.e us 0 cur w hb (by omega) (hy.oneCell hl hc)
 rw [Nat.add_zero] at hst
 have hsp:=zgl (off:=off) hl hrel hy hoff (by simpa using p7)
 have hsize:(cur.toList.take off++us++cur.toList.drop (off+us.length)).toArray.size=cur.size:=by simp;omega
 obtain ⟨c1,c2,c3⟩:=hw.write hk hm hb k.ver (Nat.le_refl _) (zO k.cells off ys) (cur.toList.take off++us++cur.toList.drop (off+us.length)).toArray hsize (zfp p6 hc)
  (by rw [hsize,zdV _ _ _ hoff];exact p7) (fun j x u hx hu=>hsp j x u hx (by simpa using hu))
 exact ⟨_,_,c1,c2,c3,hst⟩
theorem zia {t:TypeId} {x v:PV} {p q:Value} {H':za} (hw:WRel C H w) (hx:VRel C x p) (hv:VRel C v q) (h:zcQ P H t x v=some H'):
  ∃ C' w',CLe C C'∧WRel C' H' w'∧Below C.B w w'∧(Instr.storeAt t p q).run P w= .ok () w':=by
 unfold zcQ at h
 split at h
 ·rename_i id0 ver0 off0
  split at h
  ·rename_i k hk
   split at h
   ·rename_i hver
    subst hver
    simp only [Option.map_eq_some_iff] at h
    obtain ⟨c,hc,rfl⟩:=h
    obtain ⟨b,q1,rfl⟩:=zby hw hx (hw.ver _ k hk)
    obtain ⟨cur,q3,q5,q6,q7,q8,q9,q10⟩:=hw.blk hk q1
    unfold wr at hc
    split at hc
    ·rename_i cs
     split at hc
     ·rename_i hh
      injection hc with hc
      subst hc
      cases hv with
      | agg hl hcc hR=>
       obtain ⟨C',w',c1,c2,c3,c4⟩:=hw.store (P:=P) hk q1 q5 cs _ hl hcc hR hh.2
       refine ⟨C',w',c1,c2,c3,?_⟩
       simp [Instr.storeAt,Instr.sureAddr,storeVar,zW hh.1,Value.cells,hl,c4]
     ·cases hc
    ·rename_i hna
     split at hc
     ·rename_i hh
      injection hc with hc
      subst hc
      rw [zhc _ _ _ hh.2.2]
      obtain ⟨C',w',c1,c2,c3,c4⟩:=hw.store (P:=P) (off:=off0) hk q1 q5 [v] [q] rfl (by simpa using hh.2.1) (.one hv) (by have:=hh.2.2;simp;omega)
      refine ⟨C',w',c1,c2,c3,?_⟩
      have hcells:q.cells= #[q]:=by
       have:=hv.oneCell hh.2.1
       cases q<;>first|rfl|(simp [Value.oneCell'] at this)
      simp [Instr.storeAt,Instr.sureAddr,storeVar,zW hh.1,hcells,c4]
     ·cases hc
   ·cases h
  ·cases h
 ·cases h
end Go.Proofs.YtjgmdlcjbgiekaaGreatDoor.Pm
namespace Go.Proofs.YtjgmdlcjbgiekaaGreatDoor.Pm
set_option linter.all false
open Go.RowKit
variable {P:Program} {C:Ctx} {H:za} {w:World} {F:Nat→PV} {a:Act} {N:Nat}
theorem ze3 {s:TypeId} {x v:PV} {p:Value} {f:Nat} (hw:WRel C H w) (hx:VRel C x p) (h:zai P H s x f=some v):∃ u,VRel C v u∧(Instr.fieldAt s p f).run P w= .ok u w:=by
 unfold zai at h
 split at h
 ·rename_i fs hu
  split at h
  ·rename_i fd hfd
   split at h
   ·rename_i n hn
    split at h
    case isFalse=>cases h
    rename_i hpos
    obtain ⟨n,rfl⟩:=Nat.exists_eq_succ_of_ne_zero (Nat.pos_iff_ne_zero.1 hpos)
    split at h
    ·rename_i xs off
     injection h with h
     subst h
     cases hx with
     | @ip _ _ b o us hl hM hc hR=>
      refine ⟨.pointer (some ⟨b,o+(off+fd.offset),none⟩),.ip hl hM hc hR,?_⟩
      simp [Instr.fieldAt,run_underlying hu,hfd,Instr.sureAddr,fieldPlace,zW hn,Addr.add_lit,Nat.add_assoc]
    ·rename_i id ver off
     split at h
     ·rename_i hlv
      injection h with h
      subst h
      have hv:=(zbw hw hlv).1
      obtain ⟨b,hb,rfl⟩:=zby hw hx hv
      refine ⟨.pointer (some ⟨b,off+fd.offset,none⟩),.ptr hb hv,?_⟩
      simp [Instr.fieldAt,run_underlying hu,hfd,Instr.sureAddr,fieldPlace,zW hn,Addr.add_lit]
     ·cases h
    ·cases h
   ·cases h
  ·cases h
 ·cases h
theorem zij {s:TypeId} {x v:PV} {p:Value} {f:Nat} (hx:VRel C x p) (h:zil P s x f=some v):∃ u,VRel C v u∧(Instr.field s p f).run P w= .ok u w:=by
 unfold zil at h
 split at h
 ·rename_i fs hu
  split at h
  ·rename_i fd hfd
   split at h
   ·rename_i cs
    cases hx with
    | agg hl hc hR=>
     obtain ⟨u,hv,hr⟩:=zbp (P:=P) (w:=w) hl hc hR h
     exact ⟨u,hv,by simp [Instr.field,run_underlying hu,hfd,asAgg,hr]⟩
   ·cases h
  ·cases h
 ·cases h
theorem ze2 {t:TypeId} {x i v:PV} {p q:Value} (hw:WRel C H w) (hx:VRel C x p) (hi:VRel C i q) (h:zah P H t x i=some v):
  ∃ u,VRel C v u∧(Instr.indexAt t p q).run P w= .ok u w:=by
 unfold zah at h
 split at h
 ·rename_i e xs len full k i hu
  obtain rfl:=zK hi
  split at h
  ·rename_i n hn
   split at h
   ·rename_i hh
    injection h with h
    subst h
    cases hx with
    | @slice _ _ cap b o _ us hl hM hc hR hcap hmax hf=>
     refine ⟨.pointer (some ⟨b,o+i.toNat * n,none⟩),.ip hl hM hc hR,?_⟩
     simp [Instr.indexAt,asIntOf,run_underlying hu,zW hn,hh.1,hh.2.1,Addr.add_lit]
    | sliceN=>omega
   ·cases h
  ·cases h
 ·rename_i e id ver off len sz g k i hu
  obtain rfl:=zK hi
  split at h
  ·rename_i n hn hlv
   split at h
   ·rename_i hh
    injection h with h
    subst h
    have hv:=(zbw hw hlv).1
    obtain ⟨b,cap,off',hb,rfl,hc1,hc2,ho,_⟩|⟨ad,_,h0,_⟩:=zbg hw hx hv
    rotate_left
    ·omega
    obtain rfl:=ho (by omega)
    refine ⟨.pointer (some ⟨b,off'+i.toNat * n,none⟩),.ptr hb hv,?_⟩
    simp [Instr.indexAt,asIntOf,run_underlying hu,zW hn,hh.1,hh.2,Addr.add_lit]
   ·cases h
  ·cases h
 ·rename_i len e id ver off k i hu
  obtain rfl:=zK hi
  split at h
  ·rename_i n hn hlv
   split at h
   ·rename_i hh
    injection h with h
    subst h
    have hv:=(zbw hw hlv).1
    obtain ⟨b,hb,rfl⟩:=zby hw hx hv
    refine ⟨.pointer (some ⟨b,off+i.toNat * n,none⟩),.ptr hb hv,?_⟩
    simp [Instr.indexAt,asIntOf,run_underlying hu,zW hn,hh.1,hh.2,Addr.add_lit,Instr.sureAddr]
   ·cases h
  ·cases h
 ·rename_i len e xs off k i hu
  obtain rfl:=zK hi
  split at h
  ·rename_i n hn
   split at h
   ·rename_i hh
    injection h with h
    subst h
    cases hx with
    | @ip _ _ b o us hl hM hc hR=>
     refine ⟨.pointer (some ⟨b,o+(off+i.toNat * n),none⟩),.ip hl hM hc hR,?_⟩
     simp [Instr.indexAt,asIntOf,run_underlying hu,zW hn,hh.1,hh.2,Addr.add_lit,Instr.sureAddr,Nat.add_assoc]
   ·cases h
  ·cases h
 ·cases h
theorem zig {t:TypeId} {x i v:PV} {p q:Value} (hx:VRel C x p) (hi:VRel C i q) (h:zii P t x i=some v):∃ u,VRel C v u∧(Instr.index t p q).run P w= .ok u w:=by
 unfold zii at h
 split at h
 ·rename_i len e cs k i hu
  obtain rfl:=zK hi
  split at h
  ·rename_i n hn
   split at h
   ·rename_i hh
    cases hx with
    | agg hl hc hR=>
     obtain ⟨u,hv,hr⟩:=zbp (P:=P) (w:=w) hl hc hR h
     exact ⟨u,hv,by simp [Instr.index,asIntOf,run_underlying hu,zW hn,hh.1,hh.2,hr]⟩
   ·cases h
  ·cases h
 ·rename_i s k i hu
  obtain rfl:=zK hi
  split at h
  ·rename_i hh
   injection h with h
   subst h
   obtain ⟨s',rfl,rfl⟩:=zbf hx
   have hsz:s'.size=s'.data.toList.length:=by rw [Array.length_toList];rfl
   have hlt:i.toNat<s'.size:=by omega
   refine ⟨_,.int _ _,?_⟩
   have hg:s'[i.toNat]? =some s'[i.toNat]:=ByteArray.getElem?_lt' s' _ hlt
   have hb:s'.data.toList.getD i.toNat 0=s'[i.toNat]:=by
    rw [List.getD_eq_getElem?_getD,List.getElem?_eq_getElem (by omega),Option.getD_some,Array.getElem_toList]
    rfl
   simp only [Instr.index,asIntOf,Sem.run_bind,Sem.run_pure,Result.andThen_ok,run_underlying hu,hh.1,if_true,hg,hb]
  ·cases h
 ·cases h
def zlw (C:Ctx) (x:Option PV) (v:Option Value):Prop:=match x,v with|none,none=>True|some x,some v=>VRel C x v|_,_=>False
theorem zaT {x:PV} {v:Value} {d n y:Nat} {code:BoundsCode} (hx:VRel C x v) (h:zaq d (some x)=some n) (hy:n≤y):(Instr.sliceBound v y code).run P w= .ok n w:=by
 unfold zaq at h
 split at h
 ·rename_i hx';cases hx'
 ·rename_i k i hx'
  injection hx' with hx'
  subst hx'
  obtain rfl:=zK hx
  split at h
  ·injection h with h
   subst h
   have:i≤(y:Int):=by omega
   simp [Instr.sliceBound,asIntOf, *]
  ·cases h
 ·cases h
theorem zaO {isSlice:Bool} {len cap l h m:Nat} {lo hi mx:Option PV} {lo' hi' mx':Option Value} (rlo:zlw C lo lo') (rhi:zlw C hi hi') (rmx:zlw C mx mx')
  (h1:zaq 0 lo=some l) (h2:zaq len hi=some h) (h3:(mx=none∧m=cap∧h≤cap)∨(zaq len mx=some m∧mx≠none∧hi≠none∧h≤m∧m≤cap)) (hlh:l≤h):
  (Instr.sliceBounds isSlice len cap lo' hi' mx').run P w= .ok (l,h,m) w:=by
 rcases h3 with ⟨rfl,rfl,h4⟩|⟨h3,hm,hh,h4,h5⟩
 ·cases mx' with
  | some _=>exact rmx.elim
  | none=>
   cases hi with
   | none=>
    cases hi' with
    | some _=>exact rhi.elim
    | none=>
     simp only [zaq,Option.some.injEq] at h2
     subst h2
     cases lo with
     | none=>
      cases lo' with
      | some _=>exact rlo.elim
      | none=>simp only [zaq,Option.some.injEq] at h1;subst h1;simp [Instr.sliceBounds]
     | some x=>
      cases lo' with
      | none=>exact rlo.elim
      | some v=>simp [Instr.sliceBounds,zaT (P:=P) (w:=w) rlo h1 hlh]
   | some y=>
    cases hi' with
    | none=>exact rhi.elim
    | some v'=>
     cases lo with
     | none=>
      cases lo' with
      | some _=>exact rlo.elim
      | none=>simp only [zaq,Option.some.injEq] at h1;subst h1;simp [Instr.sliceBounds,zaT (P:=P) (w:=w) rhi h2 h4]
     | some x=>
      cases lo' with
      | none=>exact rlo.elim
      | some v=>simp [Instr.sliceBounds,zaT (P:=P) (w:=w) rhi h2 h4,zaT (P:=P) (w:=w) rlo h1 hlh]
 ·cases mx with
  | none=>exact absurd rfl hm
  | some z=>
   cases mx' with
   | none=>exact rmx.elim
   | some vz=>
    cases hi with
    | none=>exact absurd rfl hh
    | some y=>
     cases hi' with
     | none=>exact rhi.elim
     | some v'=>
      cases lo with
      | none=>
       cases lo' with
       | some _=>exact rlo.elim
       | none=>simp only [zaq,Option.some.injEq] at h1;subst h1;simp [Instr.sliceBounds,zaT (P:=P) (w:=w) rmx h3 h5,zaT (P:=P) (w:=w) rhi h2 h4]
      | some x=>
       cases lo' with
       | none=>exact rlo.elim
       | some v=>simp [Instr.sliceBounds,zaT (P:=P) (w:=w) rmx h3 h5,zaT (P:=P) (w:=w) rhi h2 h4,zaT (P:=P) (w:=w) rlo h1 hlh]
theorem zf8 {xs:List PV} {len cap b o l h m n:Nat} {full:Bool} {us:List Value} (hl:us.length=xs.length) (hM:∀ (j:Nat) (u:Value),us[j]? =some u→C.M b (o+j)=some u)
  (hc:∀ x∈xs,x.cell=true) (hR:Rel C xs us) (hxs:xs.length=len * n) (h1:l≤h) (h2:h≤m) (h3:m≤cap) (h4:h≤len) (hmax:cap≤maxLen) (hf:full=true→m=h):
  VRel C (.slice ((xs.drop (l * n)).take ((h - l) * n)) (h - l) full) (.slice (if m=l then some ⟨b,o,none⟩ else some ⟨b,o+l * n,none⟩) (h - l) (m - l)):=by
 have hln:(h - l) * n+l * n=h * n:=by rw [←Nat.add_mul];congr 1;omega
 have hhn:h * n≤len * n:=Nat.mul_le_mul_right n h4
 have hlen:((us.drop (l * n)).take ((h - l) * n)).length=((xs.drop (l * n)).take ((h - l) * n)).length:=by simp [hl]
 split
 ·have:h=l:=by omega
  subst this
  refine .slice (us:=[]) (by simp) (fun j u hu=>by simp at hu) (fun x hx=>by simp at hx) (fun j x u hx=>by simp at hx) (by omega) (by omega) (fun hft=>by have:=hf hft;omega)
 ·refine .slice hlen (fun j u hu=> ?_) (fun x hx=>hc x (List.mem_of_mem_drop (List.mem_of_mem_take hx))) ((hR.drop _).take _) (by omega) (by omega) (fun hft=>by have:=hf hft;omega)
  rw [List.getElem?_take] at hu
  split at hu
  ·rw [List.getElem?_drop] at hu
   have:=hM _ u hu
   rwa [←Nat.add_assoc] at this
  ·cases hu
theorem zic {t:TypeId} {x v:PV} {p:Value} {lo hi mx:Option PV} {lo' hi' mx':Option Value} (hw:WRel C H w) (hx:VRel C x p) (rlo:zlw C lo lo') (rhi:zlw C hi hi') (rmx:zlw C mx mx')
  (h:zcr P H t x lo hi mx=some v):∃ u,VRel C v u∧(Instr.sliceAt t p lo' hi' mx').run P w= .ok u w:=by
 unfold zcr at h
 split at h
 ·rename_i e xs len full hu
  split at h
  ·rename_i n l hh hn hl hhi
   split at h
   ·split at h
    ·rename_i hq
     injection h with h
     subst h
     cases hx with
     | @slice _ _ cap b o _ us hll hM hc hR hcap hmax hf=>
      have hb:=zaO (P:=P) (w:=w) (isSlice:=true) (cap:=cap) (m:=cap) rlo rhi rmx hl hhi (.inl ⟨rfl,rfl,by omega⟩) hq.1
      refine ⟨_,zf8 hll hM hc hR hq.2.2 hq.1 (by omega:hh≤cap) (Nat.le_refl _) hq.2.1 hmax (fun hft=>by simp at hft;have:=hf hft.1;omega),?_⟩
      simp [Instr.sliceAt,Instr.slice,run_underlying hu,hb,zW hn,Addr.add_lit]
     | sliceN ad=>
      have hb:=zaO (P:=P) (w:=w) (isSlice:=true) (cap:=0) (m:=0) rlo rhi rmx hl hhi (.inl ⟨rfl,rfl,by omega⟩) hq.1
      have e1:hh=0:=by omega
      have e2:l=0:=by omega
      subst e1 e2
      refine ⟨.slice ad 0 0,by simpa using VRel.sliceN (C:=C) ad _,?_⟩
      cases ad<;>simp [Instr.sliceAt,Instr.slice,run_underlying hu,hb,zW hn,Addr.add]
    ·cases h
   ·rename_i z
    split at h
    ·rename_i m y hm
     split at h
     ·rename_i hq
      injection h with h
      subst h
      cases hx with
      | @slice _ _ cap b o _ us hll hM hc hR hcap hmax hf=>
       have hb:=zaO (P:=P) (w:=w) (isSlice:=true) (cap:=cap) (m:=m) rlo rhi rmx hl hhi (.inr ⟨hm,by simp,by simp,hq.2.1,by omega⟩) hq.1
       refine ⟨_,zf8 hll hM hc hR hq.2.2.2 hq.1 hq.2.1 (by omega:m≤cap) (by omega) hmax (fun hft=>by simpa using hft),?_⟩
       simp [Instr.sliceAt,Instr.slice,run_underlying hu,hb,zW hn,Addr.add_lit]
      | sliceN ad=>
       have hb:=zaO (P:=P) (w:=w) (isSlice:=true) (cap:=0) (m:=m) rlo rhi rmx hl hhi (.inr ⟨hm,by simp,by simp,hq.2.1,by omega⟩) hq.1
       have e3:m=0:=by omega
       have e1:hh=0:=by omega
       have e2:l=0:=by omega
       subst e1 e2 e3
       refine ⟨.slice ad 0 0,by simpa using VRel.sliceN (C:=C) ad _,?_⟩
       cases ad<;>simp [Instr.sliceAt,Instr.slice,run_underlying hu,hb,zW hn,Addr.add]
     ·cases h
    ·cases h
  ·cases h
 ·rename_i e id ver off len sz g hu
  split at h
  ·rename_i n l hh hn hl hhi hlv
   split at h
   ·rename_i hq
    injection h with h
    subst h
    have hv:=(zbw hw hlv).1
    obtain ⟨b,cap,off',hb',rfl,hc1,hc2,ho,hg⟩|⟨ad,hgh,h0,rfl⟩:=zbg hw hx hv
    rotate_left
    ·have e1:hh=0:=by omega
     have e2:l=0:=by omega
     subst e1 e2 h0
     have hb:=zaO (P:=P) (w:=w) (isSlice:=true) (cap:=0) (m:=0) rlo rhi rmx hl hhi (.inl ⟨rfl,rfl,by omega⟩) hq.1
     refine ⟨.slice ad 0 0,.mslG ad hgh hv,?_⟩
     cases ad<;>simp [Instr.sliceAt,Instr.slice,run_underlying hu,hb,zW hn,Addr.add]
    have hb:=zaO (P:=P) (w:=w) (isSlice:=true) (cap:=cap) (m:=cap) rlo rhi rmx hl hhi (.inl ⟨rfl,rfl,by omega⟩) hq.1
    have hrun:(Instr.sliceAt t (.slice (some ⟨b,off',none⟩) len cap) lo' hi' mx').run P w= .ok (.slice (if cap=l then some ⟨b,off',none⟩ else some ⟨b,off'+l * n,none⟩) (hh - l) (cap - l)) w:=by
     simp [Instr.sliceAt,Instr.slice,run_underlying hu,hb,zW hn,Addr.add_lit]
    refine ⟨_,?_,hrun⟩
    cases lo with
    | none=>
     simp only [zaq,Option.some.injEq] at hl
     subst hl
     simp only [Nat.zero_mul,Nat.add_zero,Nat.sub_zero,ite_self]
     cases g with
     | true=>
      obtain ⟨g1,g2,g3⟩:=hg rfl
      subst g1 g2
      exact .msl hb' hv (by omega) hc2 (fun _=>⟨rfl,g3⟩)
     | false=>
      rcases Nat.eq_zero_or_pos hh with h0|h0
      ·subst h0;exact .mslE hb' hv hc2
      ·obtain rfl:=ho (by omega)
       exact .msl hb' hv (by omega) hc2 (fun hf=>by cases hf)
    | some y=>
     show VRel C (.msl id ver (off+l * n) (hh - l) sz false) _
     rcases Nat.eq_zero_or_pos (hh - l) with h0|h0
     ·rw [h0]
      by_cases hcl:cap=l
      ·rw [if_pos hcl];exact .mslE hb' hv (by omega)
      ·rw [if_neg hcl];exact .mslE hb' hv (by omega)
     ·obtain rfl:=ho (by omega)
      rw [if_neg (by omega)]
      exact .msl hb' hv (by omega) (by omega) (fun hf=>by cases hf)
   ·cases h
  ·cases h
 ·rename_i len e id ver off hu
  split at h
  ·rename_i n l hh hn hl hhi hlv
   split at h
   ·rename_i hq
    injection h with h
    subst h
    have hv:=(zbw hw hlv).1
    obtain ⟨b,hb',rfl⟩:=zby hw hx hv
    have hb:=zaO (P:=P) (w:=w) (isSlice:=false) (cap:=len) (m:=len) rlo rhi rmx hl hhi (.inl ⟨rfl,rfl,by omega⟩) hq.1
    have hrun:(Instr.sliceAt t (.pointer (some ⟨b,off,none⟩)) lo' hi' mx').run P w= .ok (.slice (some (if len=l then ⟨b,off,none⟩ else ⟨b,off+l * n,none⟩)) (hh - l) (len - l)) w:=by
     simp [Instr.sliceAt,run_underlying hu,hb,zW hn,Addr.add_lit,Instr.sureAddr]
    refine ⟨_,?_,hrun⟩
    have hmx:len≤maxLen:=by simp only [maxLen];omega
    rcases Nat.eq_zero_or_pos (hh - l) with h0|h0
    ·rw [h0]
     split
     ·exact .mslE hb' hv (by omega)
     ·exact .mslE hb' hv (by omega)
    ·rw [if_neg (by omega)]
     exact .msl hb' hv (by omega) (by omega) (fun hf=>by cases hf)
   ·cases h
  ·cases h
 ·rename_i s hu
  split at h
  ·rename_i l hh hl hhi
   split at h
   ·rename_i hq
    injection h with h
    subst h
    obtain ⟨s',rfl,rfl⟩:=zbf hx
    have hsz:s'.size=s'.data.toList.length:=by rw [Array.length_toList];rfl
    cases mx' with
    | some _=>exact rmx.elim
    | none=>
     rw [←hsz] at hhi
     have hb:=zaO (P:=P) (w:=w) (isSlice:=false) (cap:=s'.size) (m:=s'.size) rlo rhi rmx hl hhi (.inl ⟨rfl,rfl,by omega⟩) hq.1
     refine ⟨.string (s'.extract l hh),?_,?_⟩
     ·have:=VRel.str (C:=C) (s'.extract l hh)
      rw [ByteArray.data_extract,Array.toList_extract,List.extract_eq_take_drop] at this
      exact this
     ·simp [Instr.sliceAt,Instr.slice,run_underlying hu,hb]
   ·cases h
  ·cases h
 ·cases h
end Go.Proofs.YtjgmdlcjbgiekaaGreatDoor.Pm
