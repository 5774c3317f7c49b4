/-
  Parts of the proof, put together in one text. No condition.
-/
import Derived.Test.YtjgmdlcjbgiekaaGreatDoorQ05
namespace Go.Proofs.YtjgmdlcjbgiekaaGreatDoor.Pm
set_option linter.all false
open Go.RowKit
variable {P:Program} {C:Ctx} {H:za} {w:World} {F:Nat→PV} {a:Act} {N:Nat}
theorem zjF {t tx ty:TypeId} {d x v:PV} {p q:Value} {H':za} (hw:WRel C H w) (hd:VRel C d p) (hx:VRel C x q) (h:zft P H t d x=some (v,H')):
  ∃ C' u w',CLe C C'∧WRel C' H' w'∧Below C.B w w'∧VRel C' v u∧(Builtin.copy_ #[t,tx] ty #[p,q]).run P w= .ok u w':=by
 unfold zft at h
 split at h
 ·rename_i e hu
  split at h
  ·rename_i sz hn
   split at h
   ·rename_i id ver off len sz' g
    split at h
    ·rename_i k ys n hk hsc
     split at h
     ·rename_i hq
      simp only [Option.some.injEq,Prod.mk.injEq] at h
      obtain ⟨rfl,rfl⟩:=h
      obtain ⟨hver,hfit⟩:=hq
      subst hver
      obtain ⟨ad,cap,us,rfl,hcap,hl,hyl,hR,hc,hat⟩:=zbT hw hx hsc
      have hgo:(∃ bb dcap off',C.mu[id]? =some (some bb)∧p= .slice (some ⟨bb,off',none⟩) len dcap∧(0<len→off'=off))∨∃ ad,len=0∧p= .slice ad 0 0:=by
       obtain ⟨bb,dcap,off',q1,rfl,_,_,ho,_⟩|⟨ad,_,h0,rfl⟩:=zbg hw hd (hw.ver id k hk)
       ·exact .inl ⟨bb,dcap,off',q1,rfl,ho⟩
       ·exact .inr ⟨ad,h0,rfl⟩
      have hmn:min n len * sz≤n * sz:=Nat.mul_le_mul_right _ (Nat.min_le_left _ _)
      have hml:min n len * sz≤len * sz:=Nat.mul_le_mul_right _ (Nat.min_le_right _ _)
      have htl:(ys.take (min n len * sz)).length=min n len * sz:=by simp;omega
      have hul:(us.take (min n len * sz)).length=min n len * sz:=by simp;omega
      have hfirst:(Builtin.firstCells sz (min n len) (.slice ad n cap)).run P w= .ok (us.take (min n len * sz)).toArray w:=by
       rcases hat with ⟨rfl,rfl⟩|⟨b,o,rfl,hat⟩
       ·have e0:min 0 len=0:=Nat.zero_min len
        rw [e0]
        simpa using zcF (P:=P) (w:=w) (sz:=sz) (n:=0) (cap:=cap) (ad:=ad) (us:=[]) (by simp) (.inl ⟨rfl,rfl⟩)
       ·exact run_firstCells_some w sz (min n len) ⟨b,o,none⟩ n cap _ hul (fun j v hv=>by rw [Addr.add_lit];exact (hat.take _) j v hv)
      have hcc:∀ x∈ys.take (min n len * sz),x.cell=true:=fun x hx=>hc x (List.mem_of_mem_take hx)
      rcases Nat.eq_zero_or_pos len with h0|h0
      ·subst h0
       have hp:∃ base dcap,p= .slice base 0 dcap:=by
        rcases hgo with ⟨bb,dcap,off',_,rfl,_⟩|⟨ad,_,rfl⟩
        ·exact ⟨_,_,rfl⟩
        ·exact ⟨_,_,rfl⟩
       obtain ⟨base,dcap,rfl⟩:=hp
       simp only [Nat.min_zero,Nat.zero_mul,List.take_zero] at *
       have hsp:zO k.cells off []=k.cells:=by simp [zO]
       rw [hsp]
       have hset:H.set id ⟨k.e,k.ver,k.cells⟩=H:=by
        apply List.ext_getElem?
        intro j
        rw [List.getElem?_set]
        split
        ·rename_i hj;subst hj;split
         ·rw [hk]
         ·rename_i hj2;exact absurd (List.getElem?_eq_some_iff.1 hk).1 hj2
        ·rfl
       rw [hset]
       refine ⟨C,_,w,.refl _,hw,.refl _ _,.int _ _,?_⟩
       cases base<;>simp [Builtin.copy_,run_underlying hu,Builtin.lenOf,zW hn,hfirst,storeCells,goInt]
      ·obtain ⟨bb,dcap,off',q1,rfl,ho⟩|⟨ad,h1,_⟩:=hgo
       rotate_left
       ·omega
       obtain ⟨cur,q3,q5,q6,q7,q8,q9,q10⟩:=hw.blk hk q1
       obtain rfl:=ho h0
       obtain ⟨C',w',c1,c2,c3,c4⟩:=hw.store (P:=P) (off:=off') hk q1 q5 (ys.take (min n len * sz)) (us.take (min n len * sz)) (by rw [hul,htl]) hcc (hR.take _) (by rw [htl];omega)
       refine ⟨C',_,w',c1,c2,c3,.int _ _,?_⟩
       have hmin:Nat.min n len=min n len:=rfl
       simp [Builtin.copy_,run_underlying hu,Builtin.lenOf,zW hn,hmin,hfirst,c4,goInt]
     ·cases h
    ·cases h
   ·rename_i xs full
    split at h
    ·rename_i c hsc
     simp only [Option.some.injEq,Prod.mk.injEq] at h
     obtain ⟨rfl,rfl⟩:=h
     obtain ⟨ys,n⟩:=c
     obtain ⟨ad,cap,us,rfl,hcap,hl,hyl,hR,hc,hat⟩:=zbT hw hx hsc
     have hp:∃ base dcap,p= .slice base 0 dcap:=by
      cases hd with
      | slice=>exact ⟨_,_,rfl⟩
      | sliceN=>exact ⟨_,_,rfl⟩
     obtain ⟨base,dcap,rfl⟩:=hp
     refine ⟨C,_,w,.refl _,hw,.refl _ _,.int _ _,?_⟩
     have hfirst:(Builtin.firstCells sz 0 (.slice ad n cap)).run P w= .ok #[] w:=by
      rcases hat with ⟨rfl,rfl⟩|⟨b,o,rfl,hat⟩
      ·exact zcF (w:=w) (us:=[]) (by simp) (.inl ⟨rfl,rfl⟩)
      ·exact run_firstCells_some w sz 0 ⟨b,o,none⟩ n cap [] (by simp) (fun j v hv=>by simp at hv)
     have hmin:Nat.min n 0=0:=Nat.min_zero n
     cases base<;>simp [Builtin.copy_,run_underlying hu,Builtin.lenOf,zW hn,hmin,hfirst,goInt,storeCells]
    ·cases h
   ·cases h
  ·cases h
 ·cases h
theorem zkP {t ty:TypeId} {x v:PV} {q:Value} (hw:WRel C H w) (hx:VRel C x q) (h:ze1 P H t x=some v):∃ u,VRel C v u∧(Builtin.len_ #[t] ty #[q]).run P w= .ok u w:=by
 unfold ze1 at h
 split at h
 ·rename_i s hu
  injection h with h
  subst h
  obtain ⟨s',rfl,rfl⟩:=zbf hx
  have hsz:s'.size=s'.data.toList.length:=by rw [Array.length_toList];rfl
  refine ⟨_,.int _ _,?_⟩
  rw [←hsz]
  simp [Builtin.len_,run_underlying hu,goInt]
 ·rename_i n e hu
  injection h with h
  subst h
  exact ⟨_,.int _ _,by simp [Builtin.len_,run_underlying hu,goInt]⟩
 ·rename_i e xs n full hu
  injection h with h
  subst h
  refine ⟨_,.int _ _,?_⟩
  cases hx<;>simp [Builtin.len_,run_underlying hu,goInt]
 ·rename_i e id ver off n sz g hu
  split at h
  ·rename_i hlv
   injection h with h
   subst h
   obtain ⟨b,cap,off',hb',rfl,_⟩|⟨ad,_,h0,rfl⟩:=zbg hw hx (zbw hw hlv).1
   ·exact ⟨_,.int _ _,by simp [Builtin.len_,run_underlying hu,goInt]⟩
   ·subst h0;exact ⟨_,.int _ _,by simp [Builtin.len_,run_underlying hu,goInt]⟩
  ·cases h
 ·cases h
theorem zdk {f:PV→PV→Option PV} {g:Value→Value→Sem Value} (hf:∀ x y z p q,VRel C x p→VRel C y q→f x y=some z→∃ u,VRel C z u∧(g p q).run P w= .ok u w):
  ∀ (xs:List PV) (us:List Value) (x v:PV) (p:Value),VRels C xs us→VRel C x p→zem f x xs=some v→∃ u,VRel C v u∧(us.foldlM g p).run P w= .ok u w
 | [],us,x,v,p,hr,hx,h=>by
  have:us=[]:=List.eq_nil_of_length_eq_zero (by simpa using hr.1)
  subst this
  simp only [zem,Option.some.injEq] at h
  subst h
  exact ⟨p,hx,by simp⟩
 | y::ys,[],x,v,p,hr,_,_=>by simp [VRels] at hr
 | y::ys,u::us,x,v,p,hr,hx,h=>by
  simp only [zem] at h
  split at h
  ·rename_i z hz
   obtain ⟨u',hu',hr'⟩:=hf x y z p u hx (hr.2 0 y u rfl rfl) hz
   obtain ⟨v',hv',hrv⟩:=zdk hf ys us z v u' ⟨by simpa using hr.1,fun j x u hx hu=>hr.2 (j+1) x u (by simpa using hx) (by simpa using hu)⟩ hu' h
   exact ⟨v',hv',by simp [List.foldlM_cons,hr',hrv]⟩
  ·cases h
theorem zkN (x y z:PV) (p q:Value) (hx:VRel C x p) (hy:VRel C y q) (h:zrC x y=some z):∃ u,VRel C z u∧(Builtin.min2 p q).run P w= .ok u w:=by
 unfold zrC at h
 split at h
 ·obtain rfl:=zK hx
  obtain rfl:=zK hy
  injection h with h
  subst h
  exact ⟨_,.int _ _,by simp [Builtin.min2]⟩
 ·cases h
theorem zkO (x y z:PV) (p q:Value) (hx:VRel C x p) (hy:VRel C y q) (h:zm8 x y=some z):∃ u,VRel C z u∧(Builtin.max2 p q).run P w= .ok u w:=by
 unfold zm8 at h
 split at h
 ·obtain rfl:=zK hx
  obtain rfl:=zK hy
  injection h with h
  subst h
  exact ⟨_,.int _ _,by simp [Builtin.max2]⟩
 ·cases h
theorem zfu:∀ (xs:List PV) (s:List UInt8),ze4 xs=some s→∃ ns:List Int,xs=ns.map (PV.int .u8)∧s=ns.map fun n=>UInt8.ofNat n.toNat
 | [],s,h=>by simp [ze4] at h;subst h;exact ⟨[],rfl,rfl⟩
 | x::xs,s,h=>by
  simp only [ze4,List.mapM_cons,Option.bind_eq_bind,Option.pure_def,Option.bind_eq_some_iff,Option.some.injEq] at h
  obtain ⟨b,hb,s',hs',rfl⟩:=h
  obtain ⟨ns,rfl,rfl⟩:=zfu xs s' hs'
  unfold byteOf at hb
  split at hb
  ·rename_i n
   injection hb with hb
   subst hb
   exact ⟨n::ns,rfl,rfl⟩
  ·cases hb
theorem zgU:∀ (ns:List Int) (s:ByteArray),(ns.foldl (fun r n=>r.push (UInt8.ofNat n.toNat)) s).data.toList=s.data.toList++ns.map fun n=>UInt8.ofNat n.toNat
 | [],s=>by simp
 | n::ns,s=>by
  rw [List.foldl_cons,zgU ns]
  simp [ByteArray.push]
theorem zjq:∀ (ns:List Int) (us:List Value),us.length=ns.length→Rel C (ns.map (PV.int .u8)) us→us=ns.map (Value.int .u8)
 | [],us,h,_=>List.eq_nil_of_length_eq_zero (by simpa using h)
 | n::ns,[],h,_=>by simp at h
 | n::ns,u::us,h,hr=>by
  have h0:=zK (hr 0 _ u rfl rfl)
  subst h0
  rw [zjq ns us (by simpa using h) (fun j x u hx hu=>hr (j+1) x u (by simpa using hx) (by simpa using hu))]
  rfl
theorem zjG {src dst:TypeId} {x v:PV} {q:Value} (hw:WRel C H w) (hx:VRel C x q) (h:zdT P H src dst x=some v):∃ u,VRel C v u∧(convert src dst q).run P w= .ok u w:=by
 unfold zdT at h
 split at h
 ·rename_i d k kk n hs hd
  injection h with h
  subst h
  obtain rfl:=zK hx
  exact ⟨_,.int _ _,by simp [convert,run_underlying hs,run_underlying hd,Conv.intToInt]⟩
 ·rename_i d s hs hd
  injection h with h
  subst h
  obtain ⟨s',rfl,rfl⟩:=zbf hx
  exact ⟨_,.str _,by simp [convert,run_underlying hs,run_underlying hd]⟩
 ·rename_i d k n hs hd
  split at h
  ·rename_i hn
   injection h with h
   subst h
   obtain rfl:=zK hx
   refine ⟨_,znx hn.1 hn.2,by simp [convert,run_underlying hs,run_underlying hd,Conv.intToString]⟩
  ·cases h
 ·rename_i e hs hd _ _
  split at h
  ·rename_i he
   simp only [Option.bind_eq_some_iff,Option.map_eq_some_iff] at h
   obtain ⟨⟨ys,n⟩,hsc,s,hb,rfl⟩:=h
   obtain ⟨ad,cap,us,rfl,hcap,hl,hyl,hR,hc,hat⟩:=zbT hw hx hsc
   obtain ⟨ns,hys,rfl⟩:=zfu ys s hb
   subst hys
   have hus:=zjq ns us (by simpa using hl) hR
   subst hus
   rw [run_convert_bytes_string w src dst e ad n cap hs he hd]
   rcases hat with ⟨rfl,h3⟩|⟨b,o,rfl,hat⟩
   ·have hns:ns=[]:=by simpa using h3
    subst hns
    refine ⟨.string .empty,VRel.str (C:=C) ByteArray.empty,?_⟩
    cases ad with
    | none=>simp [Conv.bytesToString]
    | some a=>exact run_bytesToString w a 0 cap [] rfl
   ·have hld:=hat.load (P:=P)
    rw [show (ns.map (Value.int .u8)).length=n by simp at hyl ⊢;omega] at hld
    refine ⟨_,?_,run_bytesToString w ⟨b,o,none⟩ n cap ns hld⟩
    have:=VRel.str (C:=C) (ns.foldl (fun r n=>r.push (UInt8.ofNat n.toNat)) ByteArray.empty)
    rw [zgU] at this
    exact this
  ·cases h
 ·cases h
theorem zhf {op:BinOp} {t:TypeId} {x v:PV} (X Y:Operand) (hw:WRel C H w) (hx:VRel C x (a.eval X)) (hy:zcV Y=true) (h:zbu P H op t x=some v):
  ∃ u,VRel C v u∧(do eqGuard op t X Y (a.eval X) (a.eval Y);binOp op t (a.eval X) (a.eval Y):Sem Value).run P w= .ok u w:=by
 have hY:a.eval Y= .slice none 0 0:=by
  cases Y with
  | const c=>
   simp only [zcV] at hy
   unfold zk5 at hy
   split at hy
   ·simp only [Bool.and_eq_true] at hy
    rw [Nat.eq_of_beq_eq_true hy.1,Nat.eq_of_beq_eq_true hy.2]
    rfl
   ·cases hy
  | _=>simp [zcV] at hy
 rw [hY]
 generalize a.eval X=p at hx ⊢
 unfold zbu at h
 split at h
 ·rename_i e hu
  have key:∃ ad l c,p= .slice (some ad) l c∧peq op false=some v:=by
   split at h
   ·split at h
    ·rename_i n f hn
     cases hx with
     | slice=>exact ⟨_,_,_,rfl,h⟩
     | sliceN=>omega
    ·cases h
   ·split at h
    ·rename_i id ver off n sz g hn
     obtain ⟨b,cap,off',hb',rfl,_⟩|⟨ad,_,h0,rfl⟩:=zbg hw hx (zbw hw hn.2).1
     ·exact ⟨_,_,_,rfl,h⟩
     ·omega
    ·cases h
   ·cases h
  obtain ⟨ad,l,c,rfl,hp⟩:=key
  have heqn:∀ n,(Op.equalIn (n+1) t (.slice (some ad) l c) (.slice none 0 0)).run P w= .ok false w:=fun n=>by
   unfold Op.equalIn
   simp only [Sem.run_bind,run_underlying hu,Result.andThen_ok]
   rfl
  have heq:(Op.equal t (.slice (some ad) l c) (.slice none 0 0)).run P w= .ok false w:=heqn 9999
  obtain ⟨u,hu',hr⟩:=zbo (P:=P) (C:=C) (w:=w) hp heq (fun o ho=>by rcases ho with rfl|rfl<;>rfl)
  refine ⟨u,hu',?_⟩
  have hg:(eqGuard op t X Y (.slice (some ad) l c) (.slice none 0 0)).run P w= .ok () w:=by
   cases op<;>simp [eqGuard]
  rw [Sem.run_bind,hg,Result.andThen_ok,hr]
 ·cases h
theorem zkK {x v:PV} {o:Oper} {X:Operand} (hw:WRel C H w) (hx:VRel C x (a.eval X)) (ho:o.op= .nilCheck X) (h:zhg H x=some v):OpOk P o a w C v H:=by
 unfold zhg at h
 split at h
 ·rename_i id ver off
  split at h
  ·rename_i hlv
   injection h with h
   subst h
   obtain ⟨b,hb,he⟩:=zby hw hx (zbw hw hlv).1
   exact .pure hw hx (by simp [execOp,ho,he])
  ·cases h
 ·injection h with h
  subst h
  refine .pure hw hx ?_
  generalize hq:a.eval X=u at hx ⊢
  cases hx
  simp [execOp,ho,hq]
 ·injection h with h
  subst h
  refine .pure hw hx ?_
  generalize hq:a.eval X=u at hx ⊢
  cases hx
  simp [execOp,ho,hq]
 ·cases h
theorem zgK {b:Builtin} {ts:Array TypeId} {args:Array Operand} {v:PV} {H':za} {o:Oper} (hw:WRel C H w) (hF:FRel C N F a) (ho:o.op= .call { callee:=.builtin b,args:=args,argTypes:=ts })
  (h:zy P H b ts.toList (args.toList.map (ev F))=some (v,H')):OpOk P o a w C v H':=by
 have hargs:=zdL hF args.toList
 have hex:∀ (s:Sem Value),(∀ cs,builtin b ts o.type cs (args.map a.eval)=(do pure (.value (←s))))→(execOp a.eval o).run P w=(s.run P w).andThen fun u w'=>.ok (.value u) w':=fun s hs=>by
  simp only [execOp,ho,resolve,invoke,Sem.run_bind,Sem.run_pure,Result.andThen_ok,hs]
 unfold zy at h
 generalize hts:ts.toList=tl at h
 generalize hal:args.toList.map (ev F)=al at h hargs
 have hts':ts=tl.toArray:=by rw [←hts]
 have hav:args.map a.eval=(args.toList.map a.eval).toArray:=by apply Array.ext';simp
 generalize args.toList.map a.eval=vl at hargs hav
 split at h
 ·rename_i t x
  simp only [Option.map_eq_some_iff,Prod.mk.injEq] at h
  obtain ⟨v',hv',rfl,rfl⟩:=h
  match vl,hargs with
  | [q],hargs=>
   obtain ⟨u,hu,hr⟩:=zkP (ty:=o.type) hw (hargs.2 0 x q rfl rfl) hv'
   exact .pure hw hu (by rw [hex (Builtin.len_ ts o.type (args.map a.eval)) (fun _=>rfl),hts',hav,hr];rfl)
  | [],hargs=>simp [VRels] at hargs
  | _::_::_,hargs=>simp [VRels] at hargs
 ·rename_i t tx s x
  match vl,hargs with
  | [p,q],hargs=>
   obtain ⟨C',u,w',c1,c2,c3,c4,hr⟩:=zhi (ty:=o.type) hw (hargs.2 0 s p rfl rfl) (hargs.2 1 x q rfl rfl) h
   exact ⟨C',u,w',c1,c2,c3,c4,.inl (by rw [hex (Builtin.append_ ts o.type (args.map a.eval)) (fun _=>rfl),hts',hav,hr];rfl)⟩
  | [],hargs=>simp [VRels] at hargs
  | [_],hargs=>simp [VRels] at hargs
  | _::_::_::_,hargs=>simp [VRels] at hargs
 ·rename_i t tx s x
  match vl,hargs with
  | [p,q],hargs=>
   obtain ⟨C',u,w',c1,c2,c3,c4,hr⟩:=zjF (tx:=tx) (ty:=o.type) hw (hargs.2 0 s p rfl rfl) (hargs.2 1 x q rfl rfl) h
   exact ⟨C',u,w',c1,c2,c3,c4,.inl (by rw [hex (Builtin.copy_ ts o.type (args.map a.eval)) (fun _=>rfl),hts',hav,hr];rfl)⟩
  | [],hargs=>simp [VRels] at hargs
  | [_],hargs=>simp [VRels] at hargs
  | _::_::_::_,hargs=>simp [VRels] at hargs
 ·rename_i x r
  simp only [Option.map_eq_some_iff,Prod.mk.injEq] at h
  obtain ⟨v',hv',rfl,rfl⟩:=h
  match vl,hargs with
  | q::us,hargs=>
   obtain ⟨u,hu,hr⟩:=zdk (P:=P) (w:=w) zkN r us x _ q ⟨by simpa using hargs.1,fun j x u hx hu=>hargs.2 (j+1) x u (by simpa using hx) (by simpa using hu)⟩ (hargs.2 0 x q rfl rfl) hv'
   exact .pure hw hu (by rw [hex (Builtin.min_ ts o.type (args.map a.eval)) (fun _=>rfl),hav];simp [Builtin.min_,hr])
  | [],hargs=>simp [VRels] at hargs
 ·rename_i x r
  simp only [Option.map_eq_some_iff,Prod.mk.injEq] at h
  obtain ⟨v',hv',rfl,rfl⟩:=h
  match vl,hargs with
  | q::us,hargs=>
   obtain ⟨u,hu,hr⟩:=zdk (P:=P) (w:=w) zkO r us x _ q ⟨by simpa using hargs.1,fun j x u hx hu=>hargs.2 (j+1) x u (by simpa using hx) (by simpa using hu)⟩ (hargs.2 0 x q rfl rfl) hv'
   exact .pure hw hu (by rw [hex (Builtin.max_ ts o.type (args.map a.eval)) (fun _=>rfl),hav];simp [Builtin.max_,hr])
  | [],hargs=>simp [VRels] at hargs
 ·cases h
theorem zio (hF:FRel C N F a) (x:Option Operand):zlw C (x.map (ev F)) (x.map a.eval):=by
 cases x with
 | none=>trivial
 | some x=>exact zw hF x
theorem zm5 {o:Oper} {v:PV} {H':za} (hw:WRel C H w) (hF:FRel C N F a) (h:pop P o.op F H=some (v,H')):OpOk P o a w C v H':=by
 unfold pop at h
 split at h
 case h_1 x ho=>simp only [Option.some.injEq,Prod.mk.injEq] at h;obtain ⟨rfl,rfl⟩:=h;exact .pure hw (zw hF x) (by simp [execOp,ho])
 case h_2 x ho=>simp only [Option.some.injEq,Prod.mk.injEq] at h;obtain ⟨rfl,rfl⟩:=h;exact .pure hw (zw hF x) (by simp [execOp,ho])
 case h_3 c x y ho=>
  have hc:=zw hF c
  have hx:=zw hF x
  have hy:=zw hF y
  split at h
  ·rename_i t p q ec ex ey
   simp only [Option.some.injEq,Prod.mk.injEq] at h
   obtain ⟨rfl,rfl⟩:=h
   rw [ec] at hc
   rw [ex] at hx
   rw [ey] at hy
   have hc':=zaf hc
   have hx':=zaf hx
   have hy':=zaf hy
   refine .pure hw (.bool _) ?_
   cases t<;>simp [execOp,ho,asBool,hc',hx',hy']
  ·rename_i t ec _
   simp only [Option.some.injEq,Prod.mk.injEq] at h
   obtain ⟨rfl,rfl⟩:=h
   rw [ec] at hc
   have hc':=zaf hc
   cases t
   ·exact .pure hw hy (by simp [execOp,ho,asBool,hc'])
   ·exact .pure hw hx (by simp [execOp,ho,asBool,hc'])
  ·cases h
 case h_4 elem x ho=>
  split at h
  ·rename_i hall
   simp only [Option.some.injEq,Prod.mk.injEq] at h
   obtain ⟨rfl,rfl⟩:=h
   obtain ⟨hr,hl⟩:=zcH hall (zw hF x)
   obtain ⟨c1,c2,c3⟩:=hw.allocOwn (a.eval x).cells elem (ev F x).cells 0 (fun x hx=>List.all_eq_true.1 hall x hx) (by rw [←hl];simp) (fun j x u hx hu=>hr j x u hx (by simpa using hu))
   refine ⟨_,.pointer (some ⟨w.heap.size,0,none⟩),_,c1,c2,c3,.ptr (by simp [Ctx.more,←hw.len]) (by simp [Ctx.more,←hw.lenv]),.inl ?_⟩
   simp [execOp,ho,Instr.box,newVar,newRow]
  ·cases h
 case h_5 elem ho=>
  simp only [Option.map_eq_some_iff,Prod.mk.injEq] at h
  obtain ⟨z,hz,rfl,rfl⟩:=h
  obtain ⟨i,zv,hi,hzv,hzr,hzl,hzc⟩:=zae hz
  obtain ⟨c1,c2,c3⟩:=hw.allocOwn zv.cells elem z 0 hzc (by rw [←hzl];simp) (fun j x u hx hu=>hzr C j x u hx (by simpa using hu))
  refine ⟨_,.pointer (some ⟨w.heap.size,0,none⟩),_,c1,c2,c3,.ptr (by simp [Ctx.more,←hw.len]) (by simp [Ctx.more,←hw.lenv]),.inl ?_⟩
  simp [execOp,ho,Instr.alloc,newVar,newRow,zeroValue,typeInfo,hi,hzv]
 case h_6 t parts ho=>
  simp only [Option.map_eq_some_iff,Prod.mk.injEq] at h
  obtain ⟨v',hv',rfl,rfl⟩:=h
  obtain ⟨hl,hp⟩:=ze7 hF parts
  obtain ⟨u,hu,hr⟩:=zim (P:=P) (w:=w) hl hp hv'
  exact .pure hw hu (by simp only [execOp,ho,Sem.run_bind,hr,Result.andThen_ok,Sem.run_pure])
 case h_7 t len parts ho=>
  simp only [Option.map_eq_some_iff,Prod.mk.injEq] at h
  obtain ⟨v',hv',rfl,rfl⟩:=h
  obtain ⟨hl,hp⟩:=ze7 hF parts
  obtain ⟨C',u,w',c1,c2,c3,c4,hr⟩:=zeo (P:=P) hw hl hp hv'
  exact ⟨C',u,w',c1,c2,c3,c4,.inl (by simp only [execOp,ho,Sem.run_bind,hr,Result.andThen_ok,Sem.run_pure])⟩
 case h_8 t x ho=>
  simp only [Option.map_eq_some_iff,Prod.mk.injEq] at h
  obtain ⟨v',hv',rfl,rfl⟩:=h
  obtain ⟨u,hu,hr⟩:=zfs (P:=P) hw (zw hF x) hv'
  exact .pure hw hu (by simp only [execOp,ho,Sem.run_bind,hr,Result.andThen_ok,Sem.run_pure])
 case h_9 t x y ho=>
  simp only [Option.map_eq_some_iff,Prod.mk.injEq] at h
  obtain ⟨H2,hv',rfl,rfl⟩:=h
  obtain ⟨C',w',c1,c2,c3,hr⟩:=zia (P:=P) hw (zw hF x) (zw hF y) hv'
  exact ⟨C',_,w',c1,c2,c3,.undefV,.inr ⟨by simp only [execOp,ho,Sem.run_bind,hr,Result.andThen_ok,Sem.run_pure],rfl⟩⟩
 case h_10 x ho=>
  simp only [Option.map_eq_some_iff,Prod.mk.injEq] at h
  obtain ⟨v',hv',rfl,rfl⟩:=h
  exact zkK hw (zw hF x) ho hv'
 case h_11 op t x y t' ho=>
  split at h
  ·rename_i hnil
   simp only [Option.map_eq_some_iff,Prod.mk.injEq] at h
   obtain ⟨v',hv',rfl,rfl⟩:=h
   obtain ⟨u,hu,hr⟩:=zhf (P:=P) x y hw (zw hF x) hnil hv'
   exact .pure hw hu (by simp only [execOp,ho];rw [Sem.run_bind,hr];rfl)
  split at h
  ·rename_i xs ys hxe hye
   simp only [Option.map_eq_some_iff,Prod.mk.injEq] at h
   obtain ⟨v',hv',rfl,rfl⟩:=h
   obtain ⟨u,hu,hr⟩:=zkT (P:=P) (w:=w) x y (hxe▸zw hF x) (hye▸zw hF y) hv'
   exact .pure hw hu (by simp only [execOp,ho];rw [Sem.run_bind,hr];rfl)
  ·simp only [Option.map_eq_some_iff,Prod.mk.injEq] at h
   obtain ⟨v',hv',rfl,rfl⟩:=h
   obtain ⟨u,hu,hr⟩:=zkV (P:=P) x y hw (zw hF x) (zw hF y) hv'
   exact .pure hw hu (by simp only [execOp,ho];rw [Sem.run_bind,hr];rfl)
 case h_12 op t x ho=>
  simp only [Option.map_eq_some_iff,Prod.mk.injEq] at h
  obtain ⟨v',hv',rfl,rfl⟩:=h
  obtain ⟨u,hu,hr⟩:=zm2 (P:=P) (w:=w) (zw hF x) hv'
  exact .pure hw hu (by simp only [execOp,ho,Sem.run_bind,hr,Result.andThen_ok,Sem.run_pure])
 case h_13 src dst x ho=>
  simp only [Option.map_eq_some_iff,Prod.mk.injEq] at h
  obtain ⟨v',hv',rfl,rfl⟩:=h
  obtain ⟨u,hu,hr⟩:=zjG (P:=P) hw (zw hF x) hv'
  exact .pure hw hu (by simp only [execOp,ho,Sem.run_bind,hr,Result.andThen_ok,Sem.run_pure])
 case h_14 f first captured ho=>
  simp only [Option.some.injEq,Prod.mk.injEq] at h
  obtain ⟨rfl,rfl⟩:=h
  obtain ⟨hl1,hr1⟩:=zdL hF first.toList
  obtain ⟨hl2,hr2⟩:=zdL hF captured.toList
  refine .pure hw (.func hl1 hl2 hr1 hr2) ?_
  simp only [execOp,ho,Instr.makeFunc,Sem.run_bind,Sem.run_pure,Result.andThen_ok]
  congr 3
  ·apply Array.ext';simp
  ·apply Array.ext';simp
 case h_15 t l c ho=>
  obtain ⟨C',u,w',c1,c2,c3,c4,hr⟩:=zjz (P:=P) hw (zw hF l) (zw hF c) h
  exact ⟨C',u,w',c1,c2,c3,c4,.inl (by simp only [execOp,ho,Sem.run_bind,hr,Result.andThen_ok,Sem.run_pure])⟩
 case h_16 t x lo hi mx ho=>
  simp only [Option.map_eq_some_iff,Prod.mk.injEq] at h
  obtain ⟨v',hv',rfl,rfl⟩:=h
  obtain ⟨u,hu,hr⟩:=zic (P:=P) hw (zw hF x) (zio hF lo) (zio hF hi) (zio hF mx) hv'
  exact .pure hw hu (by simp only [execOp,ho,Sem.run_bind,hr,Result.andThen_ok,Sem.run_pure])
 case h_17 s x f ho=>
  simp only [Option.map_eq_some_iff,Prod.mk.injEq] at h
  obtain ⟨v',hv',rfl,rfl⟩:=h
  obtain ⟨u,hu,hr⟩:=ze3 (P:=P) hw (zw hF x) hv'
  exact .pure hw hu (by simp only [execOp,ho,Sem.run_bind,hr,Result.andThen_ok,Sem.run_pure])
 case h_18 s x f ho=>
  simp only [Option.map_eq_some_iff,Prod.mk.injEq] at h
  obtain ⟨v',hv',rfl,rfl⟩:=h
  obtain ⟨u,hu,hr⟩:=zij (P:=P) (w:=w) (zw hF x) hv'
  exact .pure hw hu (by simp only [execOp,ho,Sem.run_bind,hr,Result.andThen_ok,Sem.run_pure])
 case h_19 t x i ho=>
  simp only [Option.map_eq_some_iff,Prod.mk.injEq] at h
  obtain ⟨v',hv',rfl,rfl⟩:=h
  obtain ⟨u,hu,hr⟩:=ze2 (P:=P) hw (zw hF x) (zw hF i) hv'
  exact .pure hw hu (by simp only [execOp,ho,Sem.run_bind,hr,Result.andThen_ok,Sem.run_pure])
 case h_20 t x i ho=>
  simp only [Option.map_eq_some_iff,Prod.mk.injEq] at h
  obtain ⟨v',hv',rfl,rfl⟩:=h
  obtain ⟨u,hu,hr⟩:=zig (P:=P) (w:=w) (zw hF x) (zw hF i) hv'
  exact .pure hw hu (by simp only [execOp,ho,Sem.run_bind,hr,Result.andThen_ok,Sem.run_pure])
 case h_21 t ho=>
  simp only [Option.some.injEq,Prod.mk.injEq] at h
  obtain ⟨rfl,rfl⟩:=h
  obtain ⟨c1,c2,c3⟩:=hw.allocMap t 0
  refine ⟨_,.map (some w.heap.size),_,c1,c2,c3,.mp (by simp [Ctx.more,←hw.len]) (by simp [Ctx.more,←hw.lenv]) (by simp [Ctx.more,←hw.lenc]),.inl ?_⟩
  simp only [execOp,ho,Option.map_none,Instr.makeMap]
  rfl
 case h_22 t m k ok ho=>
  simp only [Option.map_eq_some_iff,Prod.mk.injEq] at h
  obtain ⟨v',hv',rfl,rfl⟩:=h
  obtain ⟨u,hu,hr⟩:=zjB (P:=P) hw (zw hF m) (zw hF k) hv'
  exact .pure hw hu (by simp only [execOp,ho,Sem.run_bind,hr,Result.andThen_ok,Sem.run_pure])
 case h_23 t m k x ho=>
  simp only [Option.map_eq_some_iff,Prod.mk.injEq] at h
  obtain ⟨H2,hv',rfl,rfl⟩:=h
  obtain ⟨w',c2,c3,hr⟩:=zfq (P:=P) hw (zw hF m) (zw hF k) (zw hF x) hv'
  exact ⟨C,_,w',.refl _,c2,c3,.undefV,.inr ⟨by simp only [execOp,ho,Sem.run_bind,hr,Result.andThen_ok,Sem.run_pure],rfl⟩⟩
 case h_24 t m k x ho=>
  simp only [Option.map_eq_some_iff,Prod.mk.injEq] at h
  obtain ⟨H2,hv',rfl,rfl⟩:=h
  obtain ⟨w',c2,c3,hr⟩:=zfq (P:=P) hw (zw hF m) (zw hF k) (zw hF x) hv'
  exact ⟨C,_,w',.refl _,c2,c3,.undefV,.inr ⟨by simp only [execOp,ho,Sem.run_bind,hr,Result.andThen_ok,Sem.run_pure],rfl⟩⟩
 case h_25 x i ho=>
  have hx:=zw hF x
  split at h
  ·rename_i vs ex
   simp only [Option.map_eq_some_iff,Prod.mk.injEq] at h
   obtain ⟨v',hv',rfl,rfl⟩:=h
   rw [ex] at hx
   generalize hq:a.eval x=q at hx
   cases hx with
   | @tup _ us hl hR=>
    have hlt:i<us.length:=by
     have:=(List.getElem?_eq_some_iff.1 hv').1
     omega
    refine .pure hw (hR i _ us[i] hv' (List.getElem?_eq_getElem hlt)) ?_
    simp [execOp,ho,Instr.extract,hq,List.getElem?_eq_getElem hlt]
  ·cases h
 case h_26 b args ts ho=>exact zgK hw hF ho h
 case h_27=>cases h
end Go.Proofs.YtjgmdlcjbgiekaaGreatDoor.Pm
