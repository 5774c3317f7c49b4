/-
  Parts of the proof, put together in one text. No condition.
-/
import Derived.Test.YtjgmdlcjbgiekaaGreatDoorQ04
import Derived.Laws.StructEq
import Derived.ChangeKeysEq
import Derived.MapKept
namespace Go.Proofs.YtjgmdlcjbgiekaaGreatDoor.Pm
set_option linter.all false
open Go.RowKit
variable {P:Program} {C:Ctx} {H:za} {w:World} {F:Nat→PV} {a:Act} {N:Nat}
theorem ztN {a b:List UInt8} {p q:ByteArray} (hp:p.data.toList=a) (hq:q.data.toList=b):(p.toList==q.toList)=(a==b):=by
 rw [ByteArray.toList_eq,ByteArray.toList_eq,hp,hq]
theorem zgG {d:Nat} {t:TypeId} {u:TypeDesc} {x y:PV} {p q:Value} {b:Bool} (hu:P.underlying t=some u) (hx:VRel C x p) (hy:VRel C y q) (h:zcR u x y=some b):(Op.equalIn (d+1) t p q).run P w= .ok b w:=by
 unfold zcR at h
 split at h
 ·obtain rfl:=zK hx
  obtain rfl:=zK hy
  split at h
  ·rename_i hk;subst hk;injection h with h;subst h;exact run_equalIn_int w d t _ _ _ _ hu
  ·cases h
 ·obtain rfl:=zaf hx
  obtain rfl:=zaf hy
  injection h with h;subst h;exact run_equalIn_bool' w d t _ _ hu
 ·obtain ⟨s,rfl,e1⟩:=zbf hx
  obtain ⟨s',rfl,e2⟩:=zbf hy
  injection h with h;subst h
  rw [run_equalIn_string w d t _ _ hu,ztN e1 e2]
 ·cases h
theorem zoF {e:TypeId} {u:TypeDesc} (h:zcw P e=some u):P.underlying e=some u∧zci P e=some false:=by
 unfold zcw at h
 unfold zci
 split at h<;>first|(rename_i hu;injection h with h;subst h;rw [hu];exact ⟨rfl,rfl⟩)|cases h
theorem zgH {d e:Nat} {u:TypeDesc} (hs:zcw P e=some u) {us vs:List Value}:∀ (xs ys:List PV) (j:Nat) (b:Bool),(∀ (i:Nat) (x:PV),xs[i]? =some x→∃ u,us[j+i]? =some u∧VRel C x u)→
  (∀ (i:Nat) (x:PV),ys[i]? =some x→∃ u,vs[j+i]? =some u∧VRel C x u)→zdP u xs ys=some b→(Op.eqItems (d+1) e 1 us.toArray vs.toArray (List.range' j xs.length)).run P w= .ok b w
 | [],[],j,b,hx,hy,h=>by simp only [zdP,Option.some.injEq] at h;subst h;simp [Op.eqItems]
 | [],_::_,j,b,hx,hy,h=>by simp [zdP] at h
 | _::_,[],j,b,hx,hy,h=>by simp [zdP] at h
 | x::xs,y::ys,j,b,hx,hy,h=>by
  obtain ⟨hu,hna⟩:=zoF hs
  simp only [zdP] at h
  split at h
  ·rename_i c hc
   simp only [Option.map_eq_some_iff] at h
   obtain ⟨r,hr,rfl⟩:=h
   obtain ⟨u1,hu1,hux⟩:=hx 0 x rfl
   obtain ⟨v1,hv1,hvy⟩:=hy 0 y rfl
   have ih:=zgH hs (d:=d) (us:=us) (vs:=vs) xs ys (j+1) r (fun i x hx'=>by
    have:=hx (i+1) x (by simpa using hx');rw [show j+1+i=j+(i+1) by omega];exact this) (fun i x hx'=>by
    have:=hy (i+1) x (by simpa using hx');rw [show j+1+i=j+(i+1) by omega];exact this) hr
   rw [Nat.add_zero] at hu1 hv1
   have p1:(part e us.toArray (j * 1)).run P w= .ok u1 w:=by simp [part,zcJ hna,hu1]
   have p2:(part e vs.toArray (j * 1)).run P w= .ok v1 w:=by simp [part,zcJ hna,hv1]
   rw [List.length_cons,List.range'_succ]
   simp only [Op.eqItems,Sem.run_bind,p1,p2,Result.andThen_ok,zgG (d:=d) hu hux hvy hc]
   cases c with
   | false=>simp
   | true=>simpa using ih
  ·cases h
theorem zgI {d:Nat} {eq:TypeId→PV→PV→Option Bool} {xs ys:List PV} {us vs:List Value} (hlx:us.length=xs.length) (hcx:∀ x∈xs,x.cell=true) (hRx:Rel C xs us) (hly:vs.length=ys.length) (hcy:∀ x∈ys,x.cell=true) (hRy:Rel C ys vs)
  (heq:∀ t x y p q b,VRel C x p→VRel C y q→eq t x y=some b→(Op.equalIn d t p q).run P w= .ok b w):∀ (fs:List Field) (b:Bool),zbV eq P xs ys fs=some b→(Op.eqFields d us.toArray vs.toArray fs).run P w= .ok b w
 | [],b,h=>by simp only [zbV,Option.some.injEq] at h;subst h;simp [Op.eqFields]
 | f::fs,b,h=>by
  simp only [zbV] at h
  split at h
  ·cases h
  ·rename_i hn
   have hn' : f.name ≠ "_" := of_decide_eq_false hn
   split at h
   ·rename_i a c ha hc
    split at h
    ·rename_i r hr
     simp only [Option.map_eq_some_iff] at h
     obtain ⟨q,hq,rfl⟩:=h
     obtain ⟨p1,hp1,e1⟩:=zbp (P:=P) (w:=w) hlx hcx hRx ha
     obtain ⟨p2,hp2,e2⟩:=zbp (P:=P) (w:=w) hly hcy hRy hc
     have ih:=zgI hlx hcx hRx hly hcy hRy heq fs q hq
     simp only [Op.eqFields,hn',ne_eq,not_false_eq_true,if_true,Sem.run_bind,e1,e2,Result.andThen_ok,heq _ _ _ _ _ _ hp1 hp2 hr]
     cases r with
     | false=>simp
     | true=>simpa using ih
    ·cases h
   ·cases h
theorem zgJ {d e n:Nat} {eq:TypeId→PV→PV→Option Bool} {xs ys:List PV} {us vs:List Value} (hlx:us.length=xs.length) (hcx:∀ x∈xs,x.cell=true) (hRx:Rel C xs us) (hly:vs.length=ys.length) (hcy:∀ x∈ys,x.cell=true) (hRy:Rel C ys vs)
  (heq:∀ t x y p q b,VRel C x p→VRel C y q→eq t x y=some b→(Op.equalIn d t p q).run P w= .ok b w):∀ (is:List Nat) (b:Bool),zhh eq P e n xs ys is=some b→(Op.eqItems d e n us.toArray vs.toArray is).run P w= .ok b w
 | [],b,h=>by simp only [zhh,Option.some.injEq] at h;subst h;simp [Op.eqItems]
 | i::is,b,h=>by
  simp only [zhh] at h
  split at h
  ·rename_i a c ha hc
   split at h
   ·rename_i r hr
    simp only [Option.map_eq_some_iff] at h
    obtain ⟨q,hq,rfl⟩:=h
    obtain ⟨p1,hp1,e1⟩:=zbp (P:=P) (w:=w) hlx hcx hRx ha
    obtain ⟨p2,hp2,e2⟩:=zbp (P:=P) (w:=w) hly hcy hRy hc
    have ih:=zgJ hlx hcx hRx hly hcy hRy heq is q hq
    simp only [Op.eqItems,Sem.run_bind,e1,e2,Result.andThen_ok,heq _ _ _ _ _ _ hp1 hp2 hr]
    cases r with
    | false=>simp
    | true=>simpa using ih
   ·cases h
  ·cases h
theorem zgF:∀ (d m:Nat) (t:TypeId) (x y:PV) (p q:Value) (b:Bool),VRel C x p→VRel C y q→zaP P d t x y=some b→(Op.equalIn (d+(m+1)) t p q).run P w= .ok b w
 | 0,m,t,x,y,p,q,b,_,_,h=>by simp [zaP] at h
 | d+1,m,t,x,y,p,q,b,hx,hy,h=>by
  rw [show d+1+(m+1)=(d+(m+1))+1 by omega]
  have ih:=fun t x y p q b=>zgF d m t x y p q b
  simp only [zaP] at h
  split at h
  ·rename_i fs hu
   split at h
   ·rename_i xs ys
    split at h
    ·rename_i hst
     cases hx with
     | agg hlx hcx hRx=>
      cases hy with
      | agg hly hcy hRy=>
       have hf:P.fieldsOf t=fs:=by simp [Program.fieldsOf,hu]
       rw [run_equalIn_struct w (d+(m+1)) t _ _ (by rw [hf];exact hu) hst,hf]
       exact zgI hlx hcx hRx hly hcy hRy ih fs.toList b h
    ·cases h
   ·cases h
  ·rename_i len e hu
   split at h
   ·rename_i xs ys
    cases hx with
    | @agg _ us hlx hcx hRx=>
     cases hy with
     | @agg _ vs hly hcy hRy=>
      split at h
      ·rename_i u hs
       split at h
       ·rename_i hq
        obtain ⟨h1,h2,h3⟩:=hq
        obtain ⟨i,hi,hsz⟩:=zaV h1
        have hce:P.cellsOf e=1:=by simp [Program.cellsOf,hi,hsz]
        rw [run_equalIn_array w (d+(m+1)) _ _ hu hi,hce,List.range_eq_range',←h2]
        have get:∀ {zs:List PV} {ws:List Value},ws.length=zs.length→Rel C zs ws→∀ (i:Nat) (x:PV),zs[i]? =some x→∃ u,ws[0+i]? =some u∧VRel C x u:=fun {zs ws} hl hR i x hx=>by
         have hlt:i<ws.length:=by have:=(List.getElem?_eq_some_iff.1 hx).1;omega
         exact ⟨ws[i],by rw [Nat.zero_add];exact List.getElem?_eq_getElem hlt,hR i x _ hx (List.getElem?_eq_getElem hlt)⟩
        exact zgH (d:=d+m) hs xs ys 0 b (get hlx hRx) (get hly hRy) h
       ·cases h
      ·rename_i hs
       split at h
       ·rename_i n hn
        obtain ⟨i,hi,hsz⟩:=zaV hn
        have hce:P.cellsOf e=n:=by simp [Program.cellsOf,hi,hsz]
        rw [run_equalIn_array w (d+(m+1)) _ _ hu hi,hce]
        exact zgJ hlx hcx hRx hly hcy hRy ih (List.range len) b h
       ·cases h
   ·cases h
  ·rename_i u h1 h2 hu
   exact zgG hu hx hy h
  ·cases h
theorem zkT {op:BinOp} {t:TypeId} {xs ys:List PV} {p q:Value} {v:PV} (X Y:Operand) (hx:VRel C (.agg xs) p) (hy:VRel C (.agg ys) q) (h:zdm P op t (.agg xs) (.agg ys)=some v):
  ∃ u,VRel C v u∧(do eqGuard op t X Y p q;binOp op t p q:Sem Value).run P w= .ok u w:=by
 unfold zdm at h
 split at h
 ·rename_i hg
  split at h
  ·rename_i b hb
   have he:=zgF (w:=w) 12 9987 t _ _ _ _ b hx hy hb
   cases hx with
   | agg hlx hcx hRx=>
    cases hy with
    | agg hly hcy hRy=>
     cases op<;>simp only [peq] at h<;>first|(cases h;done)|skip
     ·injection h with h;subst h
      refine ⟨_,.bool b,?_⟩
      rw [Sem.run_bind,run_eqGuard_agg w _ _ _ _ _ _ hg,Result.andThen_ok,run_eql_struct]
      simp [he]
     ·injection h with h;subst h
      refine ⟨_,.bool (!b),?_⟩
      rw [Sem.run_bind,run_eqGuard_agg w _ _ _ _ _ _ hg,Result.andThen_ok,run_neq_struct]
      simp [he]
  ·cases h
 ·cases h
end Go.Proofs.YtjgmdlcjbgiekaaGreatDoor.Pm
namespace Go.Proofs.YtjgmdlcjbgiekaaGreatDoor.Pm
set_option linter.all false
open Go.RowKit
variable {P:Program} {C:Ctx} {H:za} {w:World} {F:Nat→PV} {a:Act} {N:Nat}
theorem znx {n:Int} (h0:0≤n) (h1:n<128):VRel C (.str [UInt8.ofNat n.toNat]) (.string (Utf8.encode n)):=by
 have:(Utf8.encode n).data.toList=[UInt8.ofNat n.toNat]:=by
  obtain ⟨m,rfl⟩:∃ m:Nat,n=m:=⟨n.toNat,by omega⟩
  have hm:m<128:=by omega
  have hv:Utf8.valid (m:Int)=true:=by simp [Utf8.valid];omega
  unfold Utf8.encode
  simp only [hv,if_true]
  rw [if_pos (by omega)]
 rw [←this]
 exact .str _
theorem zjD {d:TypeDesc} {x y:PV} {p q:Value} {r:Bool} (hx:VRel C x p) (hy:VRel C y q) (h:zcR d x y=some r):Instr.sameNow d p q=some r∧(r=true→Instr.sameBits 10000 q p=true):=by
 unfold zcR at h
 split at h
 ·rename_i k0 k a k' b
  obtain rfl:=zK hx
  obtain rfl:=zK hy
  split at h
  ·rename_i hk
   subst hk
   injection h with h
   subst h
   refine ⟨by simp [Instr.sameNow],fun hr=> ?_⟩
   simp only [beq_iff_eq] at hr
   subst hr
   simp [Instr.sameBits]
  ·cases h
 ·rename_i a b
  obtain rfl:=zaf hx
  obtain rfl:=zaf hy
  injection h with h
  subst h
  refine ⟨by simp [Instr.sameNow],fun hr=> ?_⟩
  simp only [beq_iff_eq] at hr
  subst hr
  simp [Instr.sameBits]
 ·rename_i a b
  obtain ⟨s,rfl,rfl⟩:=zbf hx
  obtain ⟨t,rfl,rfl⟩:=zbf hy
  injection h with h
  subst h
  have key:(s==t)=(s.data.toList==t.data.toList):=by
   rw [Bool.eq_iff_iff,MapKept.bytes_beq,beq_iff_eq]
   constructor
   ·rintro rfl;rfl
   ·intro e;cases s;cases t;simp at e;simp [e]
  refine ⟨by simp [Instr.sameNow,key],fun hr=> ?_⟩
  rw [←key,MapKept.bytes_beq] at hr
  subst hr
  exact (MapKept.bytes_beq s s).2 rfl
 ·cases h
theorem zpS {a v:PV} {p q:Value} (h:VRel C (.tup [a,v]) (.tuple #[p,q])):VRel C a p∧VRel C v q:=by
 generalize hu:Value.tuple #[p,q]=u at h
 cases h with
 | @tup vs us hl hR=>
  have:us=[p,q]:=by
   have:=Value.tuple.inj hu
   simpa using (congrArg Array.toList this).symm
  subst this
  exact ⟨hR 0 a p rfl rfl,hR 1 v q rfl rfl⟩
theorem zep {a v:PV} {p q:Value} (ha:VRel C a p) (hv:VRel C v q):VRel C (.tup [a,v]) (.tuple #[p,q]):=
 VRel.tup (us:=[p,q]) rfl (fun j x u hx hu=>by
  match j with
  | 0=>simp at hx hu;subst hx hu;exact ha
  | 1=>simp at hx hu;subst hx hu;exact hv
  | j+2=>simp at hx)
theorem zdl {d:TypeDesc} {k:PV} {p:Value} (hk:VRel C k p):∀ (xs:List PV) (es:List MapEntry) (i:Nat) (r:Option (Nat×PV)),es.length=xs.length→(∀ (j:Nat) (x:PV) (e:MapEntry),xs[j]? =some x→es[j]? =some e→VRel C x (.tuple #[e.key,e.val]))→zbP d k xs i=some r→
  match r with
  | none=>Instr.findNow d p es i=some none
  | some (n,v)=>∃ e,i≤n∧es[n - i]? =some e∧Instr.findNow d p es i=some (some (n,e.val))∧VRel C v e.val∧Instr.sameBits 10000 e.key p=true
 | [],[],i,r,_,_,h=>by simp only [zbP,Option.some.injEq] at h;subst h;rfl
 | [],_::_,_,_,hl,_,_=>by simp at hl
 | _::_,[],_,_,hl,_,_=>by simp at hl
 | x::xs,e::es,i,r,hl,hR,h=>by
  have hsh:(∃ a v,x= .tup [a,v])∨zbP d k (x::xs) i=none:=by
   unfold zbP
   split
   ·cases ‹_::_=[]›
   ·rename_i h0;simp only [List.cons.injEq] at h0;exact .inl ⟨_,_,h0.1⟩
   ·exact .inr rfl
  rcases hsh with ⟨a,v,rfl⟩|hn
  ·simp only [zbP] at h
   obtain ⟨ha,hv⟩:=zpS (hR 0 _ e rfl rfl)
   split at h
   ·rename_i hq
    obtain ⟨n1,n2⟩:=zjD hk ha hq
    injection h with h
    subst h
    exact ⟨e,Nat.le_refl _,by simp,by simp [Instr.findNow,n1],hv,n2 rfl⟩
   ·rename_i hq
    obtain ⟨n1,n2⟩:=zjD hk ha hq
    have ih:=zdl hk xs es (i+1) r (by simpa using hl) (fun j x e hx he=>hR (j+1) x e (by simpa using hx) (by simpa using he)) h
    cases r with
    | none=>simpa [Instr.findNow,n1] using ih
    | some r=>
     obtain ⟨n,v'⟩:=r
     obtain ⟨e',q1,q2,q3,q4,q5⟩:=ih
     refine ⟨e',by omega,?_,by simpa [Instr.findNow,n1] using q3,q4,q5⟩
     rw [show n - i=(n - (i+1))+1 by omega]
     simpa using q2
   ·cases h
  ·rw [hn] at h;cases h
theorem zeS {kt:TypeId} {d:TypeDesc} (h:zcw P kt=some d):P.underlying kt=some d∧((∃ k,d= .int k)∨d= .bool∨d= .string):=by
 unfold zcw at h
 split at h<;>first|(injection h with h;subst h;rename_i hu;exact ⟨hu,by simp⟩)|cases h
theorem zfk {kt:TypeId} {d:TypeDesc} (h:zcw P kt=some d) (e:Bool) (n:Nat) (k:Value):(Instr.checkKey e (n+1) kt k).run P w= .ok () w:=by
 obtain ⟨hu,hd⟩:=zeS h
 unfold Instr.checkKey
 simp only [Sem.run_bind,run_underlying hu,Result.andThen]
 rcases hd with ⟨k',rfl⟩|rfl|rfl<;>cases k<;>rfl
theorem zel {t:TypeId} {m:PV} {p:Value} {e:TypeId} {d:TypeDesc} {id:Nat} {b:Blk} (hw:WRel C H w) (hm:VRel C m p) (h:zap P H t m=some (e,d,id,b)) (hlp:∀ l r,b.cells≠[.lp l r]):
  ∃ kt,P.underlying t=some (.map kt e)∧zcw P kt=some d∧H[id]? =some b∧∃ bb es clock,p= .map (some bb)∧C.mu[id]? =some none∧C.cp[id]? =some (bb+1)∧w.heap[bb]? =some (.map es clock)∧es.size=b.cells.length∧
   ∀ (j:Nat) (x:PV) (e:MapEntry),b.cells[j]? =some x→es[j]? =some e→VRel C x (.tuple #[e.key,e.val]):=by
 unfold zap at h
 split at h
 ·rename_i kt e' id' ver hu
  split at h
  ·rename_i d' b' hs hb
   split at h
   ·rename_i hv
    simp only [Option.some.injEq,Prod.mk.injEq] at h
    obtain ⟨rfl,rfl,rfl,rfl⟩:=h
    have q:=hw.ver _ _ hb
    rw [hv] at q
    obtain ⟨bb,h1,h2,rfl⟩:=zuz hw hm q
    rcases hw.gho _ _ hb h1 with ⟨h3,_⟩|⟨bb',es,clock,h3,_,h4,h5,h6⟩|⟨bb',r,h3,_,_,h4⟩
    ·rw [h2] at h3;injection h3 with h3;omega
    ·rw [h2] at h3
     injection h3 with h3
     have:bb'=bb:=by omega
     subst this
     exact ⟨kt,hu,hs,hb,bb',es,clock,rfl,h1,h2,h4,h5,h6⟩
    ·exact absurd h4.1 (hlp _ r)
   ·cases h
  ·cases h
 ·cases h
theorem zjB {t:TypeId} {m k v:PV} {p q:Value} {ok:Bool} (hw:WRel C H w) (hm:VRel C m p) (hk:VRel C k q) (h:zc7 P H t m k ok=some v):∃ u,VRel C v u∧(Instr.lookup t p q ok).run P w= .ok u w:=by
 unfold zc7 at h
 split at h
 ·rename_i e d id b hmap
  obtain ⟨kt,hu,hs,hb,bb,es,clock,rfl,h1,h2,h3,h4,h5⟩:=zel hw hm hmap (fun _ r hr=>by simp [hr,zbP] at h)
  obtain ⟨hd,_⟩:=zeS hs
  have fs:=fun r=>zdl (d:=d) hk b.cells es.toList 0 r (by simpa using h4) (fun j x e hx he=>h5 j x e hx (by simpa using he))
  have hbase:∀ r,Instr.findNow d q es.toList 0=some r→(Instr.lookup t (.map (some bb)) q ok).run P w=(do
    let (v,o)←match r with
     | some (_,v)=>pure (v,true)
     | none=>do pure (←zeroValue e,false)
    pure (if ok then .tuple #[v,.bool o] else v):Sem Value).run P w:=fun r hr=>by
   simp only [Instr.lookup,Sem.run_bind,run_underlying hu,Result.andThen_ok,MapKept.run_getObj_map h3,Sem.run_pure,zfk hs,MapKept.run_findKey hd hr]
   cases r<;>rfl
  split at h
  ·rename_i n v' hf
   injection h with h
   subst h
   obtain ⟨e',_,_,q3,q4,_⟩:=fs _ hf
   rw [hbase _ q3]
   cases ok
   ·exact ⟨e'.val,q4,by simp⟩
   ·exact ⟨_,zep q4 (.bool true),by simp⟩
  ·rename_i hf
   have q3:=fs _ hf
   rw [hbase _ q3]
   split at h
   ·rename_i z hz
    injection h with h
    subst h
    unfold zrT at hz
    cases hi:P.info? e with
    | none=>simp [hi] at hz
    | some i=>
     cases hzz:i.zero with
     | none=>simp [hi,hzz] at hz
     | some zv=>
      simp only [hi,hzz,Option.bind_some,Option.map_some,Option.some.injEq] at hz
      subst hz
      cases ok
      ·exact ⟨zv,zek zv,by simp [zeroValue,typeInfo,hi,hzz]⟩
      ·exact ⟨_,zep (zek zv) (.bool false),by simp [zeroValue,typeInfo,hi,hzz]⟩
   ·cases h
  ·cases h
 ·cases h
theorem zfq {t:TypeId} {m k v:PV} {p q u:Value} {H':za} (hw:WRel C H w) (hm:VRel C m p) (hk:VRel C k q) (hv:VRel C v u) (h:zc6 P H t m k v=some H'):
  ∃ w',WRel C H' w'∧Below C.B w w'∧(Instr.mapUpdate t p q u).run P w= .ok () w':=by
 unfold zc6 at h
 split at h
 ·rename_i e d id b hmap
  obtain ⟨kt,hu,hs,hb,bb,es,clock,rfl,h1,h2,h3,h4,h5⟩:=zel hw hm hmap (fun _ r hr=>by simp [hr,zbP] at h)
  obtain ⟨hd,_⟩:=zeS hs
  have fs:=fun r=>zdl (d:=d) hk b.cells es.toList 0 r (by simpa using h4) (fun j x e hx he=>h5 j x e hx (by simpa using he))
  split at h
  ·rename_i n v' hf
   injection h with h
   subst h
   obtain ⟨e',_,q2,q3,q4,q5⟩:=fs _ hf
   simp only [Nat.sub_zero,Array.getElem?_toList] at q2
   have hn:n<es.size:=(Array.getElem?_eq_some_iff.1 q2).1
   obtain ⟨c1,c2⟩:=hw.mapSet hb h1 h2 h3 (es.modify n fun e=>{ e with key:=q,val:=u }) clock (b.cells.set n (.tup [k,v])) (by simpa using h4) (fun j x e hx he=>by
    rw [List.getElem?_set] at hx
    rw [Array.getElem?_modify] at he
    split at hx
    ·rename_i hj;subst hj
     split at hx
     ·injection hx with hx
      subst hx
      simp only [if_true,Option.map_eq_some_iff] at he
      obtain ⟨e0,_,rfl⟩:=he
      exact zep hk hv
     ·cases hx
    ·rename_i hj
     rw [if_neg hj] at he
     exact h5 j x e hx he)
   refine ⟨_,c1,c2,?_⟩
   simp only [Instr.mapUpdate,Sem.run_bind,run_underlying hu,Result.andThen_ok,MapKept.run_getObj_map h3,zfk hs,MapKept.run_findKey hd q3,q2,Option.map_some,Option.getD_some,Instr.keyThatStays,q5,if_true,Sem.run_pure,MapKept.run_setObj_map _ h3]
  ·rename_i hf
   injection h with h
   subst h
   have q3:=fs _ hf
   obtain ⟨c1,c2⟩:=hw.mapSet hb h1 h2 h3 (es.push { key:=q,val:=u,born:=clock }) (clock+1) (b.cells++[.tup [k,v]]) (by simp [h4]) (fun j x e hx he=>by
    rcases zD hx with ⟨hj,hx⟩|⟨hj,hx⟩
    ·rw [Array.getElem?_push,if_neg (by omega)] at he
     exact h5 j x e hx he
    ·subst hx
     rw [Array.getElem?_push,if_pos (by omega)] at he
     injection he with he
     subst he
     exact zep hk hv)
   refine ⟨_,c1,c2,?_⟩
   simp only [Instr.mapUpdate,Sem.run_bind,run_underlying hu,Result.andThen_ok,MapKept.run_getObj_map h3,zfk hs,MapKept.run_findKey hd q3,MapKept.run_setObj_map _ h3]
  ·cases h
 ·cases h
end Go.Proofs.YtjgmdlcjbgiekaaGreatDoor.Pm
