/-
  Parts of the proof, put together in one text. No condition.
-/
import Derived.Test.YtjgmdlcjbgiekaaGreatDoorQ17
import Derived.Test.YtjgmdlcjbgiekaaGreatDoorQ16
namespace Go.Proofs.YtjgmdlcjbgiekaaGreatDoor.Pm
set_option linter.all false
open Go.RowKit
variable {P:Program} {C:Ctx} {H K:za} {w:World} {F:Fr} {a:Act} {N:Nat}
def okO (ids:List Nat) (pm:List (Nat×List Nat)) (f:Nat→PV) (x:Operand):Bool:=(zH (ev f x)).all fun i=> !(ids.elem i)||(atP ids (zeZ pm x)).elem i
def inO (ids:List Nat) (pm:List (Nat×List Nat)) (f:Nat→PV) (x:Operand):Bool:=match zH (ev f x) with
 | [i]=>(atP ids (zeZ pm x)).elem i
 | _=>false
def zjU:PV→Bool
 | .msl .. =>true
 | _=>false
def zkZ (f:Nat→PV) (op:Op):Bool:=match op with
 | .call { args,.. }=>(match args.toList.map (ev f) with|[.slice _ _ _,.slice _ 0 _]=>true|_=>false)
 | _=>false
def zsz (ids:List Nat) (pm:List (Nat×List Nat)) (rs:List (Nat×Nat)) (o:Oper) (f:Nat→PV):Bool:=match zkE rs o with
 | some _=>true
 | none=>match zbe o.op with
  | 0=>true
  | 1=>o.op.operands.toList.all (okO ids pm f)
  | 2=>o.op.operands.toList.all (okO ids pm f)
  | 3=>(match ziE o.op with|some x=>inO ids pm f x|none=>false)
  | 4=>(match ziE o.op with|some x=>(inO ids pm f x&&zjU (ev f x)&&o.op.operands.toList.all (okO ids pm f))||zkZ f o.op|none=>false)
  | 5=>(match ziE o.op with|some x=>inO ids pm f x&&o.op.operands.toList.all (okO ids pm f)|none=>false)
  | 6=>(match ziE o.op with|some x=>inO ids pm f x&&o.op.operands.toList.all (okO ids pm f)|none=>false)
  | _=>false
theorem zkY {ids:List Nat} {pm:List (Nat×List Nat)} {f:Nat→PV} {op:Op} (h:op.operands.toList.all (okO ids pm f)=true):∀ x∈op.operands.toList,∀ i∈zH (ev f x),i∉ids∨i∈atP ids (zaB pm op):=fun x hx i hi=>by
 have:=List.all_eq_true.1 (List.all_eq_true.1 h x hx) i hi
 simp only [Bool.or_eq_true,Bool.not_eq_true',List.elem_eq_mem,decide_eq_true_eq,decide_eq_false_iff_not] at this
 rcases this with h|h
 ·exact .inl h
 ·obtain ⟨p,hp,e⟩:=zf3 h
  exact .inr (List.mem_filterMap.2 ⟨p,List.mem_flatten.2 ⟨_,List.mem_map.2 ⟨x,hx,rfl⟩,hp⟩,e⟩)
theorem zl4 {ids:List Nat} {pm:List (Nat×List Nat)} {f:Nat→PV} {op:Op} (h:op.operands.toList.all (okO ids pm f)=true):∀ i∈zdU op f,i∉ids∨i∈atP ids (zaB pm op):=fun i hi=>by
 obtain ⟨l,hl,hi⟩:=List.mem_flatten.1 hi
 obtain ⟨x,hx,rfl⟩:=List.mem_map.1 hl
 exact zkY h x hx i hi
theorem Agr.rd {ids:List Nat} {fp:Fp} {pm:List (Nat×List Nat)} {op:Op} (hA:Agr ids fp H K) (hr:fp.r=zaB pm op) {i:Nat} (h:i∉ids∨i∈atP ids (zaB pm op)):K[i]? =H[i]? :=by
 rcases h with h|h
 ·exact hA.out i h
 ·exact hA.inn i (.inl (by rw [hr];exact h))
theorem ziz {ids:List Nat} {pm:List (Nat×List Nat)} {f:Nat→PV} {x:Operand} {i:Nat} (h:inO ids pm f x=true) (hi:zH (ev f x)=[i]):i∈atP ids (zeZ pm x):=by
 unfold inO at h
 rw [hi] at h
 simpa [List.elem_eq_mem] using h
theorem zhF {op:Op} (h:zbe op=0):zaL op=true:=by
 unfold zbe at h
 split at h
 ·assumption
 ·split at h
  ·cases h
  ·split at h
   ·split at h<;>cases h
   ·split at h<;>cases h
theorem zjS {op:Op} (h:zbe op=1∨zbe op=2):eff op=false∧(zbe op=1→zaC op=true):=by
 unfold zbe at h ⊢
 split at h
 ·rcases h with h|h<;>cases h
 ·rename_i hp
  split at h
  ·rcases h with h|h<;>cases h
  ·rename_i hc
   split at h
   ·rename_i he
    refine ⟨he,?_⟩
    split
    ·intro _;assumption
    ·intro h;cases h
   ·split at h<;>rcases h with h|h<;>cases h
theorem zev {op:Op} {n:Nat} (h:zbe op=n+3) (hn:n≤3):eff op=true∧zaL op=false∧zJ op=false:=by
 unfold zbe at h
 split at h
 ·cases h
 ·rename_i hp
  split at h
  ·injection h with h;injection h with h;injection h with h;omega
  ·rename_i hc
   split at h
   ·split at h
    ·injection h with h;cases h
    ·injection h with h;injection h with h;cases h
   ·rename_i he;exact ⟨he,hp,hc⟩
theorem zk3 {op:Op} (h:zbe op=3):∃ t x y,op= .store t x y:=by
 obtain ⟨h1,h2,h3⟩:=zev (n:=0) h (by omega)
 unfold zbe at h
 rw [h1,h2,h3] at h
 dsimp only at h
 split at h<;>first|exact ⟨_,_,_,rfl⟩|cases h
theorem zjT {op:Op} (h:zbe op=4):∃ args ts,op= .call { callee:=.builtin .append,args:=args,argTypes:=ts }:=by
 obtain ⟨h1,h2,h3⟩:=zev (n:=1) h (by omega)
 unfold zbe at h
 rw [h1,h2,h3] at h
 dsimp only at h
 split at h<;>first|exact ⟨_,_,rfl⟩|cases h
theorem znl {op:Op} (h:zbe op=5):∃ args ts,op= .call { callee:=.builtin .copy,args:=args,argTypes:=ts }:=by
 obtain ⟨h1,h2,h3⟩:=zev (n:=2) h (by omega)
 unfold zbe at h
 rw [h1,h2,h3] at h
 dsimp only at h
 split at h<;>first|exact ⟨_,_,rfl⟩|cases h
theorem zpJ {op:Op} (h:zbe op=6):∃ t m k x,op= .mapUpdate t m k x∨op= .insert t m k x:=by
 obtain ⟨h1,h2,h3⟩:=zev (n:=3) h (by omega)
 unfold zbe at h
 rw [h1,h2,h3] at h
 dsimp only at h
 split at h<;>first|exact ⟨_,_,_,_,.inl rfl⟩|exact ⟨_,_,_,_,.inr rfl⟩|cases h
theorem zg8 {e sz tx:Nat} {x:PV} (hx:∀ id∈zH x,K[id]? =H[id]?):zbi P K e sz tx x=zbi P H e sz tx x:=by
 unfold zbi
 split<;>try rfl
 exact zgq hx
theorem zo4 {t:TypeId} {m:PV} (hx:∀ id∈zH m,K[id]? =H[id]?):zap P K t m=zap P H t m:=by
 unfold zap
 split<;>try rfl
 rename_i kt e id ver hu
 rw [hx id (by simp [zH])]
theorem zkH {t:TypeId} {x v:PV} {H':za} (h:zcQ P H t x v=some H'):∃ id k b,zH x=[id]∧H[id]? =some k∧b.ver=k.ver∧H'=H.set id b∧∀ K:za,K[id]? =H[id]? →zcQ P K t x v=some (K.set id b):=by
 unfold zcQ at h
 split at h
 ·rename_i id ver off
  split at h
  ·rename_i k hk
   split at h
   ·rename_i hv
    simp only [Option.map_eq_some_iff] at h
    obtain ⟨c,hc,rfl⟩:=h
    refine ⟨id,k,⟨k.e,k.ver,c⟩,rfl,hk,rfl,rfl,fun K hK=> ?_⟩
    unfold zcQ
    simp only [hK,hk,hv,if_true,hc,Option.map_some]
   ·cases h
  ·cases h
 ·cases h
theorem zm7 {t:TypeId} {m k x:PV} {H':za} (h:zc6 P H t m k x=some H'):∃ id b' b,zH m=[id]∧H[id]? =some b'∧b.ver=b'.ver∧H'=H.set id b∧∀ K:za,K[id]? =H[id]? →zc6 P K t m k x=some (K.set id b):=by
 unfold zc6 at h
 split at h
 ·rename_i e d id b hm
  have hq:zH m=[id]∧H[id]? =some b:=by
   unfold zap at hm
   split at hm
   ·rename_i kt e' id' ver hu
    split at hm
    ·rename_i d' b' hs hb
     split at hm
     ·simp only [Option.some.injEq,Prod.mk.injEq] at hm
      obtain ⟨_,_,rfl,rfl⟩:=hm
      exact ⟨rfl,hb⟩
     ·cases hm
    ·cases hm
   ·cases hm
  have key:∀ K:za,K[id]? =H[id]? →zap P K t m=some (e,d,id,b):=fun K hK=>by
   rw [zo4 (H:=H) (fun i hi=>by rw [hq.1] at hi;simp at hi;rw [hi];exact hK),hm]
  split at h
  ·rename_i i v hf
   simp only [Option.some.injEq] at h
   subst h
   exact ⟨id,b,⟨b.e,b.ver,b.cells.set i (.tup [k,x])⟩,hq.1,hq.2,rfl,rfl,fun K hK=>by unfold zc6;rw [key K hK];simp only [hf]⟩
  ·rename_i hf
   simp only [Option.some.injEq] at h
   subst h
   exact ⟨id,b,⟨b.e,b.ver,b.cells++[.tup [k,x]]⟩,hq.1,hq.2,rfl,rfl,fun K hK=>by unfold zc6;rw [key K hK];simp only [hf]⟩
  ·cases h
 ·cases h
theorem znf {t:TypeId} {d x v:PV} {H':za} {id:Nat} (hd:zH d=[id]) (h:zft P H t d x=some (v,H')):∃ k b,H[id]? =some k∧b.ver=k.ver∧H'=H.set id b∧∀ K:za,K[id]? =H[id]? →(∀ i∈zH x,K[i]? =H[i]?)→zft P K t d x=some (v,K.set id b):=by
 unfold zft at h
 split at h
 ·rename_i e hu
  split at h
  ·rename_i sz hs
   split at h
   ·rename_i id' ver off len z g
    simp only [zH,List.cons.injEq,and_true] at hd
    subst hd
    split at h
    ·rename_i k ys n hk hy
     split at h
     ·rename_i hq
      simp only [Option.some.injEq,Prod.mk.injEq] at h
      obtain ⟨rfl,rfl⟩:=h
      refine ⟨k,⟨k.e,ver,zO k.cells off (ys.take (min n len * sz))⟩,hk,hq.1.symm,rfl,fun K hK hx=> ?_⟩
      unfold zft
      simp only [hu,hs,hK,hk,zgq hx,hy]
      rw [if_pos hq]
     ·cases h
    ·cases h
   ·simp [zH] at hd
   ·cases h
  ·cases h
 ·cases h
theorem zjJ {t tx:TypeId} {s x v:PV} {H':za} {id:Nat} (hm:zjU s=true) (hd:zH s=[id]) (h:zaJ P H t tx s x=some (v,H')):∃ k b,H[id]? =some k∧H'=H.set id b∧∀ K:za,K[id]? =H[id]? →(∀ i∈zH x,K[i]? =H[i]?)→zaJ P K t tx s x=some (v,K.set id b):=by
 unfold zaJ at h
 split at h
 ·rename_i e hu
  split at h
  ·rename_i sz bb z hs hb hz
   split at h
   ·rename_i hq0
    split at h
    ·rename_i news n hsrc
     split at h
     ·simp [zjU] at hm
     ·rename_i id' ver off len sz' g
      simp only [zH,List.cons.injEq,and_true] at hd
      subst hd
      split at h
      ·rename_i k hk
       split at h
       ·rename_i hq
        split at h
        ·rename_i hn
         simp only [Option.some.injEq,Prod.mk.injEq] at h
         obtain ⟨rfl,rfl⟩:=h
         have hset:∀ K:za,K[id']? =some k→K.set id' k=K:=fun K hK=>List.ext_getElem? fun i=>by
          by_cases e:id'=i
          ·subst e;rw [List.getElem?_set_self (List.getElem?_eq_some_iff.1 hK).1,hK]
          ·rw [List.getElem?_set_ne e]
         refine ⟨k,k,hk,(hset _ hk).symm,fun K hK hx=> ?_⟩
         unfold zaJ
         simp only [hu,hs,hb,hz,zg8 hx,hsrc,hK,hk]
         rw [if_pos hq0,if_pos hq,if_pos hn,hset K (hK.trans hk)]
        ·rename_i hn
         simp only [Option.some.injEq,Prod.mk.injEq] at h
         obtain ⟨rfl,rfl⟩:=h
         refine ⟨k,⟨e,(k.cells++news).length,k.cells++news⟩,hk,rfl,fun K hK hx=> ?_⟩
         unfold zaJ
         simp only [hu,hs,hb,hz,zg8 hx,hsrc,hK,hk]
         rw [if_pos hq0,if_pos hq,if_neg hn]
       ·cases h
      ·cases h
     ·cases h
    ·cases h
   ·cases h
  ·cases h
 ·cases h
theorem zjI {t tx:TypeId} {xs ys:List PV} {len:Nat} {full g:Bool} {v:PV} {H':za} (h:zaJ P H t tx (.slice xs len full) (.slice ys 0 g)=some (v,H')):H'=H∧∀ K,zaJ P K t tx (.slice xs len full) (.slice ys 0 g)=some (v,K):=by
 have hs:∀ K:za,∀ e sz,zbi P K e sz tx (.slice ys 0 g)=zbi P H e sz tx (.slice ys 0 g):=fun K e sz=>zg8 fun i hi=>by simp [zH] at hi
 have h0:∀ e sz news n,zbi P H e sz tx (.slice ys 0 g)=some (news,n)→n=0:=fun e sz news n h=>by
  unfold zbi at h
  split at h
  ·unfold zaI at h
   dsimp only at h
   split at h
   ·simp only [Option.some.injEq,Prod.mk.injEq] at h;exact h.2.symm
   ·cases h
  all_goals first|(rename_i hx;cases hx;done)|(cases h;done)|simp_all
 unfold zaJ at h ⊢
 simp only [hs]
 split at h
 ·split at h
  ·split at h
   ·split at h
    ·rename_i news n hsrc
     have:=h0 _ _ _ _ hsrc
     subst this
     simp only [if_true,Option.some.injEq,Prod.mk.injEq] at h
     obtain ⟨rfl,rfl⟩:=h
     exact ⟨rfl,fun K=>by simp_all⟩
    ·cases h
   ·cases h
  ·cases h
 ·cases h
theorem zo2 {ids:List Nat} {pm:List (Nat×List Nat)} {rs:List (Nat×Nat)} {ro:List Nat} {o:Oper} {f:Nat→PV} {v:PV} {H':za} (hc:zr o.op f=none) (hk:zsz ids pm rs o f=true) (h:zd2 P ids rs o f H=some (v,H')):
  Loc P ids rs (zaj pm rs ro o) o f H v H':=by
 have st:∀ {K K':za},zd2 P ids rs o f K=some (v,K')→StI P ids rs o f K v K':=fun {K K'} hp=>by unfold StI;rw [hc];exact hp
 unfold zsz at hk
 cases hr:zkE rs o with
 | some p=>
  have hfp:zaj pm rs ro o=⟨[],[],[p],[p]⟩:=by unfold zaj;rw [hr]
  unfold zd2 at h
  rw [hr] at h
  dsimp only at h
  split at h
  ·rename_i r hrp
   split at h
   ·rename_i b mk hb
    split at h
    ·rename_i k hkr
     split at h
     ·rename_i hq
      simp only [Option.some.injEq,Prod.mk.injEq] at h
      obtain ⟨rfl,rfl⟩:=h
      have hin:r∈atP ids [p]:=List.mem_filterMap.2 ⟨p,by simp,hrp⟩
      refine Loc.set hkr (by rw [hfp];exact hin) (.inr (by rw [hfp];exact hin)) fun K hK=>st ?_
      unfold zd2
      rw [hr]
      simp only [hrp,hb,hK.inn r (.inr (by rw [hfp];exact hin)),hkr]
      rw [if_pos hq]
     ·cases h
    ·cases h
   ·cases h
  ·rename_i hrp
   simp only [Option.map_eq_some_iff,Prod.mk.injEq] at h
   obtain ⟨v',hv',rfl,rfl⟩:=h
   refine Loc.read fun K hK=>st ?_
   unfold zd2
   rw [hr]
   simp only [hrp,hv',Option.map_some]
 | none=>
  rw [hr] at hk
  have pI:∀ K,zd2 P ids rs o f K=pop P o.op f K:=fun K=>by unfold zd2;rw [hr]
  rw [pI] at h
  have st:∀ {K K':za},pop P o.op f K=some (v,K')→StI P ids rs o f K v K':=fun {K K'} hp=>st (by rw [pI];exact hp)
  dsimp only at hk
  split at hk
  ·rename_i hkind
   obtain ⟨rfl,_⟩:=zao (zhF hkind) h H
   exact Loc.read fun K hK=>st (zao (zhF hkind) h K).2
  ·rename_i hkind
   have hfp:zaj pm rs ro o=⟨[],zaB pm o.op,[],[]⟩:=by unfold zaj;rw [hr,hkind];rfl
   obtain ⟨he,hl⟩:=zjS (.inl hkind)
   obtain rfl:=zcz he h
   refine Loc.read fun K hK=>st (zgz (hl hkind) (fun i hi=> ?_) h)
   rcases zl4 hk i hi with h|h
   ·unfold VEq;rw [hK.out i h]
   ·exact hK.liv i (by rw [hfp];exact h)
  ·rename_i hkind
   have hfp:zaj pm rs ro o=⟨zaB pm o.op,[],[],[]⟩:=by unfold zaj;rw [hr,hkind];rfl
   obtain ⟨he,_⟩:=zjS (.inr hkind)
   obtain rfl:=zcz he h
   exact Loc.read fun K hK=>st (zjv he (fun i hi=>hK.rd (by rw [hfp]) (zl4 hk i hi)) h)
  ·rename_i hkind
   have hfp:zaj pm rs ro o=⟨[],[],zdt pm o.op,[]⟩:=by unfold zaj;rw [hr,hkind];rfl
   obtain ⟨t,x,y,ho⟩:=zk3 hkind
   rw [ho] at h hk hfp
   simp only [pop,Option.map_eq_some_iff,Prod.mk.injEq] at h
   obtain ⟨H1,h,rfl,rfl⟩:=h
   obtain ⟨id,k,b,q1,q2,q3,rfl,q5⟩:=zkH h
   have hin:id∈atP ids (zeZ pm x):=ziz hk q1
   refine Loc.set q2 (by rw [hfp];exact hin) (.inl q3) fun K hK=>st ?_
   rw [ho]
   simp only [pop,q5 K (hK.inn id (.inr (by rw [hfp];exact hin))),Option.map_some]
  ·rename_i hkind
   have hfp:zaj pm rs ro o=⟨zaB pm o.op,[],zdt pm o.op,zdt pm o.op⟩:=by unfold zaj;rw [hr,hkind];rfl
   obtain ⟨args,ts,ho⟩:=zjT hkind
   have hops:o.op.operands.toList=args.toList:=by rw [ho];simp [Op.operands,Call.operands]
   have hf1:ziE o.op=args.toList[0]? :=by rw [ho];rfl
   split at hk
   ·rename_i x hx
    simp only [Bool.or_eq_true,Bool.and_eq_true] at hk
    rcases hk with hk|hk
    rotate_left
    ·unfold zkZ at hk
     rw [ho] at h hk
     dsimp only at hk
     split at hk
     ·rename_i xs len full ys g hal
      have e1:∀ K,pop P (.call { callee:=.builtin .append,args:=args,argTypes:=ts }) f K=zy P K .append ts.toList [.slice xs len full,.slice ys 0 g]:=fun K=>by simp only [pop,hal]
      rw [e1] at h
      match htl:ts.toList,h with
      | [t,tx],h=>
       simp only [zy] at h
       obtain ⟨rfl,hK⟩:=zjI h
       refine Loc.read fun K _=>st ?_
       rw [ho,e1,htl]
       exact hK K
      | [],h=>simp [zy] at h
      | [_],h=>simp [zy] at h
      | _::_::_::_,h=>simp [zy] at h
     ·cases hk
    obtain ⟨⟨k1,k2⟩,k3⟩:=hk
    have hfs:zdt pm o.op=zeZ pm x:=by unfold zdt;rw [hx]
    rw [hf1] at hx
    rw [ho] at h
    simp only [pop] at h
    match hal:args.toList,htl:ts.toList,hx,h with
    | [x',y],[t,tx],hx,h=>
     simp only [List.getElem?_cons_zero,Option.some.injEq] at hx
     subst hx
     simp only [List.map_cons,List.map_nil,zy] at h
     obtain ⟨id,hid⟩:∃ id,zH (ev f x')=[id]:=by
      cases hv:ev f x'<;>rw [hv] at k2<;>simp [zjU] at k2
      exact ⟨_,rfl⟩
     have hin:id∈atP ids (zeZ pm x'):=ziz k1 hid
     obtain ⟨k,b,q2,rfl,q5⟩:=zjJ k2 hid h
     refine Loc.set q2 (by rw [hfp];dsimp only;rw [hfs];exact hin) (.inr (by rw [hfp];dsimp only;rw [hfs];exact hin)) fun K hK=>st ?_
     rw [ho]
     simp only [pop,hal,htl,List.map_cons,List.map_nil,zy]
     exact q5 K (hK.inn id (.inr (by rw [hfp];dsimp only;rw [hfs];exact hin))) fun i hi=>hK.rd (by rw [hfp]) (zkY k3 y (by rw [hops,hal];simp) i hi)
    | [],_,hx,h=>simp at hx
    | [_],_,hx,h=>simp [zy] at h
    | _::_::_::_,_,hx,h=>simp [zy] at h
    | [_,_],[],hx,h=>simp [zy] at h
    | [_,_],[_],hx,h=>simp [zy] at h
    | [_,_],_::_::_::_,hx,h=>simp [zy] at h
   ·cases hk
  ·rename_i hkind
   have hfp:zaj pm rs ro o=⟨zaB pm o.op,[],zdt pm o.op,[]⟩:=by unfold zaj;rw [hr,hkind];rfl
   obtain ⟨args,ts,ho⟩:=znl hkind
   have hops:o.op.operands.toList=args.toList:=by rw [ho];simp [Op.operands,Call.operands]
   have hf1:ziE o.op=args.toList[0]? :=by rw [ho];rfl
   split at hk
   ·rename_i x hx
    simp only [Bool.and_eq_true] at hk
    obtain ⟨k1,k3⟩:=hk
    have hfs:zdt pm o.op=zeZ pm x:=by unfold zdt;rw [hx]
    rw [hf1] at hx
    rw [ho] at h
    simp only [pop] at h
    match hal:args.toList,htl:ts.toList,hx,h with
    | [x',y],[t,tx],hx,h=>
     simp only [List.getElem?_cons_zero,Option.some.injEq] at hx
     subst hx
     simp only [List.map_cons,List.map_nil,zy] at h
     obtain ⟨id,hid⟩:∃ id,zH (ev f x')=[id]:=by
      unfold inO at k1
      split at k1
      ·exact ⟨_,by assumption⟩
      ·cases k1
     have hin:id∈atP ids (zeZ pm x'):=ziz k1 hid
     obtain ⟨k,b,q2,q3,rfl,q5⟩:=znf hid h
     refine Loc.set q2 (by rw [hfp];dsimp only;rw [hfs];exact hin) (.inl q3) fun K hK=>st ?_
     rw [ho]
     simp only [pop,hal,htl,List.map_cons,List.map_nil,zy]
     exact q5 K (hK.inn id (.inr (by rw [hfp];dsimp only;rw [hfs];exact hin))) fun i hi=>hK.rd (by rw [hfp]) (zkY k3 y (by rw [hops,hal];simp) i hi)
    | [],_,hx,h=>simp at hx
    | [_],_,hx,h=>simp [zy] at h
    | _::_::_::_,_,hx,h=>simp [zy] at h
    | [_,_],[],hx,h=>simp [zy] at h
    | [_,_],[_],hx,h=>simp [zy] at h
    | [_,_],_::_::_::_,hx,h=>simp [zy] at h
   ·cases hk
  ·rename_i hkind
   have hfp:zaj pm rs ro o=⟨zaB pm o.op,[],zdt pm o.op,[]⟩:=by unfold zaj;rw [hr,hkind];rfl
   obtain ⟨t,m,kk,x,ho⟩:=zpJ hkind
   have hp2:∀ K,pop P o.op f K=(zc6 P K t (ev f m) (ev f kk) (ev f x)).map fun H'=>(.tup [],H'):=fun K=>by rcases ho with ho|ho<;>rw [ho]<;>rfl
   have hf1:ziE o.op=some m:=by rcases ho with ho|ho<;>rw [ho]<;>rfl
   have hfs:zdt pm o.op=zeZ pm m:=by unfold zdt;rw [hf1]
   rw [hf1] at hk
   simp only [Bool.and_eq_true] at hk
   obtain ⟨k1,k3⟩:=hk
   rw [hp2] at h
   simp only [Option.map_eq_some_iff,Prod.mk.injEq] at h
   obtain ⟨H1,h,rfl,rfl⟩:=h
   obtain ⟨id,k,b,q1,q2,q3,rfl,q5⟩:=zm7 h
   have hin:id∈atP ids (zeZ pm m):=ziz k1 q1
   refine Loc.set q2 (by rw [hfp];dsimp only;rw [hfs];exact hin) (.inl q3) fun K hK=>st ?_
   rw [hp2,q5 K (hK.inn id (.inr (by rw [hfp];dsimp only;rw [hfs];exact hin)))]
   rfl
  ·cases hk
def zmW (P:Program) (dr:Bool) (ids:List Nat) (pm:List (Nat×List Nat)) (rs:List (Nat×Nat)) (ds:List (Option Nat)) (o:Oper) (F:Fr) (H:za):Option (Fr×za):=
 match zac ds F o with
 | none=>none
 | some b=>cond b (match !dr||zsz ids pm rs o (slot F) with
  | true=>(match zd2 P ids rs o (slot F) H with|some (v,H')=>some (put F o.dst v,H')|none=>none)
  | false=>none) (some (put F o.dst (.tup []),H))
def VCj (P:Program) (dr:Bool) (ids:List Nat) (fp:Fp) (rs:List (Nat×Nat)) (o:Oper) (F:Fr) (H:za) (K:Fr→za→Prop):Prop:=
 match zr o.op (slot F) with
 | some (g,args)=>∃ v H',(match dr with|true=>Loc P ids rs fp o (slot F) H v H'|false=>CallOk P g args H v H')∧K (put F o.dst v) H'
 | none=>False
def VCi (P:Program) (dr:Bool) (ids:List Nat) (fp:Fp) (rs:List (Nat×Nat)) (ds:List (Option Nat)) (o:Oper) (F:Fr) (H:za) (K:Fr→za→Prop):Prop:=
 match zac ds F o with
 | none=>False
 | some b=>(b=true→VCj P dr ids fp rs o F H K)∧(b=false→K (put F o.dst (.tup [])) H)
def VOi (P:Program) (dr:Bool) (ids:List Nat) (pm:List (Nat×List Nat)) (rs:List (Nat×Nat)) (ro:List Nat) (ds:List (Option Nat)):List Oper→Option (Fr×za)→(Fr→za→Prop)→Prop
 | _,none,_=>False
 | [],some (F,H),K=>K F H
 | o::r,some (F,H),K=>match zJ o.op with
  | false=>VOi P dr ids pm rs ro ds r (zmW P dr ids pm rs ds o F H) K
  | true=>VCi P dr ids (zaj pm rs ro o) rs ds o F H fun F' H'=>VOi P dr ids pm rs ro ds r (some (F',H')) K
def VRi (P:Program) (dr:Bool) (ids:List Nat) (pm:List (Nat×List Nat)) (rs:List (Nat×Nat)) (ro:List Nat) (ds:List (Option Nat)) (r:List Oper) (K:Fr→za→Prop) (F:Fr) (H:za):Prop:=VOi P dr ids pm rs ro ds r (some (F,H)) K
theorem zsO (dr:Bool) (ids:List Nat) (pm:List (Nat×List Nat)) (rs:List (Nat×Nat)) (ro:List Nat) (ds:List (Option Nat)) (K:Fr→za→Prop) (F:Fr) (H:za):VOi P dr ids pm rs ro ds [] (some (F,H)) K=K F H:=rfl
theorem zcf (dr:Bool) (ids:List Nat) (pm:List (Nat×List Nat)) (rs:List (Nat×Nat)) (ro:List Nat) (ds:List (Option Nat)) (l:List Oper) (K:Fr→za→Prop):VOi P dr ids pm rs ro ds l none K=False:=by cases l<;>rfl
theorem zqM (dr:Bool) (ids:List Nat) (pm:List (Nat×List Nat)) (rs:List (Nat×Nat)) (ro:List Nat) (ds:List (Option Nat)) (o:Oper) (r:List Oper) (K:Fr→za→Prop) (F:Fr) (H:za):
  VOi P dr ids pm rs ro ds (o::r) (some (F,H)) K=match zJ o.op with|false=>VOi P dr ids pm rs ro ds r (zmW P dr ids pm rs ds o F H) K|true=>VCi P dr ids (zaj pm rs ro o) rs ds o F H (VRi P dr ids pm rs ro ds r K):=by
 cases h:zJ o.op with
 | false=>simp only [VOi,h]
 | true=>simp only [VOi,h];rfl
theorem zM {dr:Bool} {ids:List Nat} {pm:List (Nat×List Nat)} {rs:List (Nat×Nat)} {ro:List Nat} {ds:List (Option Nat)} {l:List Oper} {K:Fr→za→Prop} {x:Bool} {A B:Option (Fr×za)} (h1:x=true→VOi P dr ids pm rs ro ds l A K) (h2:x=false→VOi P dr ids pm rs ro ds l B K):VOi P dr ids pm rs ro ds l (cond x A B) K:=by
 cases x with
 | true=>exact h1 rfl
 | false=>exact h2 rfl
theorem VCj.read {dr:Bool} {ids:List Nat} {fp:Fp} {rs:List (Nat×Nat)} {o:Oper} {K:Fr→za→Prop} {g:FuncId} {args:List PV} {v:PV} (h:∀ L,Agr ids fp H L→CallOk P g args L v L) (hc:zr o.op (slot F)=some (g,args)) (hk:K (put F o.dst v) H):VCj P dr ids fp rs o F H K:=by
 unfold VCj
 simp only [hc]
 refine ⟨v,H,?_,hk⟩
 cases dr with
 | false=>exact h H (.refl _ _ _)
 | true=>exact Loc.read fun L hL=>by unfold StI;rw [hc];exact h L hL
theorem VCj.wr1 {dr:Bool} {ids:List Nat} {fp:Fp} {rs:List (Nat×Nat)} {o:Oper} {K:Fr→za→Prop} {g:FuncId} {args:List PV} {v:PV} {id:Nat} {k b:Blk} (hkk:H[id]? =some k) (h:∀ L:za,L[id]? =some k→Agr ids fp H L→CallOk P g args L v (L.set id b)) (hw:(atP ids fp.w).elem id=true) (hv:b.ver=k.ver∨(atP ids fp.v).elem id=true)
  (hc:zr o.op (slot F)=some (g,args)) (hk:K (put F o.dst v) (H.set id b)):VCj P dr ids fp rs o F H K:=by
 unfold VCj
 simp only [hc]
 refine ⟨v,H.set id b,?_,hk⟩
 have hw':id∈atP ids fp.w:=by simpa [List.elem_eq_mem] using hw
 cases dr with
 | false=>exact h H hkk (.refl _ _ _)
 | true=>exact Loc.set hkk hw' (by rcases hv with h|h;exact .inl h;exact .inr (by simpa [List.elem_eq_mem] using h)) fun L hL=>by unfold StI;rw [hc];exact h L ((hL.inn id (.inr hw')).trans hkk) hL
theorem zc3 {op:Op} (h:zJ op=false) (f:Nat→PV):zr op f=none:=by
 unfold zr
 split
 ·simp [zJ] at h
 ·rfl
theorem zmL {all:List Oper} {ids:List Nat} {pm:List (Nat×List Nat)} {rs:List (Nat×Nat)} {ro:List Nat} {K:Fr→za→Prop}:∀ (l:List Oper) (F:Fr) (H:za),VOi P true ids pm rs ro (all.map (·.dst)) l (some (F,H)) K→RunG (ExI P all ids pm rs ro) l (slot F) H (fun f H'=>∃ F',f=slot F'∧K F' H')
 | [],F,H,h=>⟨F,rfl,h⟩
 | o::r,F,H,h=>by
  simp only [VOi] at h
  have go:∀ v H',ExI P all ids pm rs ro o (slot F) H v H'→VOi P true ids pm rs ro (all.map (·.dst)) r (some (put F o.dst v,H')) K→RunG (ExI P all ids pm rs ro) (o::r) (slot F) H (fun f H'=>∃ F',f=slot F'∧K F' H'):=fun v H' he hr=>by
   refine ⟨v,H',he,?_⟩
   rw [←zX]
   exact zmL r _ _ hr
  cases hc:zJ o.op with
  | false=>
   simp only [hc] at h
   unfold zmW at h
   split at h
   ·rw [zcf] at h;exact h.elim
   ·rename_i b hb
    cases b with
    | false=>exact go _ _ (.inl ⟨zu all F o hb,rfl,rfl⟩) h
    | true=>
     simp only [cond_true,Bool.not_true,Bool.false_or] at h
     split at h
     ·rename_i hk
      split at h
      ·rename_i v H' hp
       exact go v H' (.inr ⟨zu all F o hb,zo2 (zc3 hc _) hk hp⟩) h
      ·rw [zcf] at h;exact h.elim
     ·rw [zcf] at h;exact h.elim
  | true=>
   simp only [hc] at h
   unfold VCi at h
   split at h
   ·exact h.elim
   ·rename_i b hb
    cases b with
    | false=>exact go _ _ (.inl ⟨zu all F o hb,rfl,rfl⟩) (h.2 rfl)
    | true=>
     have h:=h.1 rfl
     unfold VCj at h
     split at h
     ·rename_i fn args hp
      obtain ⟨v,H',h1,h2⟩:=h
      exact go v H' (.inr ⟨zu all F o hb,h1⟩) h2
     ·exact h.elim
theorem PW.drawi {E:Env} {Q:Exit→Fr→za→Prop} {id:Nat} {ops:Array Oper} (ids:List Nat) (pm:List (Nat×List Nat)) (rs:List (Nat×Nat)) (ro:List Nat) (hm:P.follows .mixedOrders=true) (hd:ziG (zfY (ops.toList.map (·.dst)) pm rs ro) E.N ops.toList=true) (hnd:ids.Nodup)
  (h:∀ K:Fr→za→Prop,(∀ F' H',Q .normal F' H'→K F' H')→VOi P true ids pm rs ro (ops.toList.map (·.dst)) ops.toList (some (F,H)) K):PW P E (.region id ops true) F H Q:=fun hs C a w hdf hw hf=>by
 refine wp_region_any hm ?_
 have hr:=zmL (P:=P) _ _ _ (h (fun F' H'=>Q .normal F' H') fun _ _ h=>h)
 have hall:∀ i,i<ops.toList.length→zg2 (zfY (ops.toList.map (·.dst)) pm rs ro) (zfw ops.toList) E.N ops.toList i=true:=by
  intro i hi
  unfold ziG at hd
  exact List.all_eq_true.1 hd i (List.mem_range.2 hi)
 refine zmJ (P:=P) hall (zvN hnd) zvQ ops.size (Array.replicate ops.size false) (slot F) H C a w.drew (by simp) ?_ (by rw [zbJ];simp) (by rw [zbJ,zf6];exact hr) hdf hw.drew hf ?_
 ·intro i o ho hl j hj
  have hi:i<ops.size:=(Array.getElem?_eq_some_iff.1 ho).1
  simp [Array.getD,hi] at hl
 ·rintro C' f' H' a' w' p1 p2 p3 p4 p5 ⟨F',rfl,p6⟩
  exact ⟨C',F',H',p1.toN _,p2,p3,((Below.refl C.B w).drew).trans p4,p5,p6⟩
theorem ztX {all:List Oper} {ids:List Nat} {pm:List (Nat×List Nat)} {rs:List (Nat×Nat)} {ro:List Nat} {K:Fr→za→Prop}:∀ (l:List Oper) (F:Fr) (H:za),l.all (zR N)=true→VOi P false ids pm rs ro (all.map (·.dst)) l (some (F,H)) K→∀ (C:Ctx) (a:Act) (w:World),a.defers=[]→WRel C H w→FRel C N (slot F) a→
  ∀ Q:Exit→Act→World→Prop,(∀ C' F' H' a' w',CLe C C'→a'.defers=[]→WRel C' H' w'→Below C.B w w'→FRel C' N (slot F') a'→K F' H'→Q .normal a' w')→wpList P all.toArray Q l a w
 | [],F,H,_,h,C,a,w,hd,hw,hf,Q,hQ=>hQ C F H a w (.refl _) hd hw (.refl _ _) hf h
 | o::r,F,H,hall,h,C,a,w,hd,hw,hf,Q,hQ=>by
  simp only [List.all_cons,Bool.and_eq_true] at hall
  simp only [VOi] at h
  have go:∀ v H',zac (all.map (·.dst)) F o=some true→StI P ids rs o (slot F) H v H'→VOi P false ids pm rs ro (all.map (·.dst)) r (some (put F o.dst v,H')) K→wpList P all.toArray Q (o::r) a w:=fun v H' hb hst hr=>by
   have hwant:=zP hf (zu all F o hb)
   unfold wpList
   rw [if_pos hwant]
   left
   refine zeR hall.1 hw hf hst _ _ fun C' u w' q1 q2 q3 q4=> ?_
   rw [←zX] at q4
   refine ztX r _ _ hall.2 hr C' _ w' (by cases ho:o.dst<;>simp [Act.put,hd]) q2 q4 Q ?_
   intro C'' F'' H'' a'' w'' p1 p2 p3 p4 p5 p6
   exact hQ C'' F'' H'' a'' w'' (q1.trans p1) p2 p3 (q3.trans (by rw [←q1.B];exact p4)) p5 p6
  have no:zac (all.map (·.dst)) F o=some false→VOi P false ids pm rs ro (all.map (·.dst)) r (some (put F o.dst (.tup []),H)) K→wpList P all.toArray Q (o::r) a w:=fun hb hr=>by
   have hwant:=zP hf (zu all F o hb)
   unfold wpList
   rw [if_neg (by rw [hwant];simp)]
   have q4:=hf.put o.dst (zas hall.1) (VRel.undefV (C:=C))
   rw [←zX] at q4
   exact ztX r _ _ hall.2 hr C _ w (by cases ho:o.dst<;>simp [Act.put,hd]) hw q4 Q hQ
  cases hc:zJ o.op with
  | false=>
   simp only [hc] at h
   unfold zmW at h
   split at h
   ·rw [zcf] at h;exact h.elim
   ·rename_i b hb
    cases b with
    | false=>exact no hb h
    | true=>
     simp only [cond_true,Bool.not_false,Bool.true_or] at h
     split at h
     ·rename_i v H' hp
      exact go v H' hb (by unfold StI;rw [zc3 hc];exact hp) h
     ·rw [zcf] at h;exact h.elim
  | true=>
   simp only [hc] at h
   unfold VCi at h
   split at h
   ·exact h.elim
   ·rename_i b hb
    cases b with
    | false=>exact no hb (h.2 rfl)
    | true=>
     have h:=h.1 rfl
     unfold VCj at h
     split at h
     ·rename_i fn args hp
      obtain ⟨v,H',h1,h2⟩:=h
      exact go v H' hb (by unfold StI;rw [hp];exact h1) h2
     ·exact h.elim
theorem PW.seqi {E:Env} {Q:Exit→Fr→za→Prop} {id:Nat} {ops:Array Oper} (ids:List Nat) (rs:List (Nat×Nat)) (hd:ops.toList.all (zR E.N)=true)
  (h:∀ K:Fr→za→Prop,(∀ F' H',Q .normal F' H'→K F' H')→VOi P false ids [] rs [] (ops.toList.map (·.dst)) ops.toList (some (F,H)) K):PW P E (.region id ops false) F H Q:=fun hs C a w hdf hw hf=>by
 refine wp_region_list ?_
 have:=ztX (P:=P) (all:=ops.toList) ops.toList F H hd (h (fun F' H'=>Q .normal F' H') fun _ _ h=>h) C a w hdf hw hf (Post E C w Q) (fun C' F' H' a' w' p1 p2 p3 p4 p5 p6=>⟨C',F',H',p1.toN _,p2,p3,p4,p5,p6⟩)
 simpa using this
end Go.Proofs.YtjgmdlcjbgiekaaGreatDoor.Pm
namespace Go.Proofs.YtjgmdlcjbgiekaaGreatDoor.Pm
set_option linter.all false
open Go.RowKit
attribute [go_sem] zsO zqM VRi VCi zmW zsz zd2 zkE zti zkM zgB zbe ziE zdt zkZ okO inO zjU zo0 zeZ zaB atP zaj dis Call.operands List.filterMap_cons_some List.filterMap_nil List.filterMap_cons Array.toList_append
end Go.Proofs.YtjgmdlcjbgiekaaGreatDoor.Pm
namespace Go.Proofs.YtjgmdlcjbgiekaaGreatDoor.Sc
set_option linter.all false
open Pm Ty Go.RowKit
theorem _root_.Go.Proofs.YtjgmdlcjbgiekaaGreatDoor.Pm.CallOk.fin {P:Program} {f:FuncId} {args:List PV} {v v':PV} {H H1 Hout:za} (h:CallOk P f args H v' H1) (hf:HSc H→H.length≤Hout.length∧CutH H1 Hout∧Fz Hout.length H1 v' v):CallOk P f args H v Hout:=
 ⟨h.1,fun C us w hw hargs=>(h.2 C us w hw hargs).mono fun e w' ⟨C',u,q1,q2,q3,q4,q5⟩=>by
  obtain ⟨hlen,hcut,hfz⟩:=hf hw.hsc
  obtain ⟨g1,g2⟩:=q2.cutN hcut
  exact ⟨_,u,((q1.toN _).trans (g1.less hlen)).full hw.lenv,g2,q3,q4,hfz.sound q2 q5⟩⟩
theorem _root_.Go.Proofs.YtjgmdlcjbgiekaaGreatDoor.Pm.CallOk.base {P:Program} {f:FuncId} {args:List PV} {v v':PV} {H K:za} (h:CallOk P f args H v' (H++K)) (hf:Fz H.length (H++K) v' v):CallOk P f args H v H:=
 h.fin fun hs=>⟨Nat.le_refl _,CutH.base hs,hf⟩
theorem apn (H K:za) (n:Nat):(H++K)[H.length+n]? =K[n]? :=by
 rw [List.getElem?_append_right (by omega),show H.length+n - H.length=n by omega]
theorem aps (H K:za) (n:Nat) (X:Blk):(H++K).set (H.length+n) X=H++K.set n X:=by
 rw [List.set_append_right _ _ (by omega),show H.length+n - H.length=n by omega]
theorem zaD {α:Type} (enc:α→List PV) (N:Nat):∀ (l:List α),(∀ x∈l,(enc x).length=N)→(l.flatMap enc).length=l.length * N
 | [],_=>by simp
 | a::r,h=>by
  rw [List.flatMap_cons,List.length_append,zaD enc N r (fun x hx=>h x (List.mem_cons_of_mem _ hx)),h a (List.mem_cons_self ..),List.length_cons,Nat.add_mul,Nat.one_mul,Nat.add_comm]
theorem zcn {α:Type} (enc:α→List PV) (N:Nat):∀ (l:List α) (k:Nat) (hk:k<l.length),(∀ x∈l,(enc x).length=N)→List.take N (List.drop (k * N) (l.flatMap enc))=enc l[k]
 | [],k,hk,_=>by simp at hk
 | a::r,0,_,h=>by
  rw [Nat.zero_mul,List.drop_zero,List.flatMap_cons]
  exact List.take_left' (h a (List.mem_cons_self ..))
 | a::r,k+1,hk,h=>by
  have e:(k+1) * N=(enc a).length+k * N:=by rw [h a (List.mem_cons_self ..),Nat.add_mul,Nat.one_mul,Nat.add_comm]
  rw [List.flatMap_cons,e,←List.drop_drop,List.drop_left]
  exact zcn enc N r k (by simpa using hk) (fun x hx=>h x (List.mem_cons_of_mem _ hx))
theorem ziA {H K:za} (hK:∀ b∈K,∀ x∈b.cells,Scoped (H.length+K.length) x) (h:HSc H):HSc (H++K):=fun id k hk x hx=>by
 rw [List.length_append]
 rw [List.getElem?_append] at hk
 split at hk
 ·exact (h id k hk x hx).mono (by omega)
 ·exact hK k (List.mem_of_getElem? hk) x hx
theorem zl0 (p:Pi) (n:Nat):∀ x∈pic p,Scoped n x:=fun x hx=>by
 simp only [pic,List.mem_cons,List.not_mem_nil,or_false] at hx
 rcases hx with rfl|rfl|rfl|rfl|rfl|rfl
 ·exact .int _ _
 ·exact .int _ _
 ·exact .int _ _
 ·exact .bool _
 ·exact .bool _
 ·exact .bool _
theorem zeA {α:Type} (enc:α→List PV) (N:Nat) (l:List α) (k r:Nat) (hk:k<l.length) (hl:∀ x∈l,(enc x).length=N) (hr:r<N):(l.flatMap enc)[k * N+r]? =(enc l[k])[r]? :=by
 rw [←zcn enc N l k hk hl,List.getElem?_take,if_pos hr,List.getElem?_drop]
def uq1 (u:Int×List UInt8):List PV:=[.int .i64 u.1,.slice (bs u.2) u.2.length false]
def uq (us:List (Int×List UInt8)):List PV:=us.flatMap uq1
theorem znO (us:List (Int×List UInt8)):(uq us).length=us.length * 2:=zaD uq1 2 us fun _ _=>rfl
theorem zvu (us:List (Int×List UInt8)) (k:Nat) (hk:k<us.length):List.take 2 (List.drop (k * 2) (uq us))=uq1 us[k]:=zcn uq1 2 us k hk fun _ _=>rfl
theorem uq_1 (us:List (Int×List UInt8)) (k:Nat) (hk:k<us.length):(uq us)[k * 2+1]? =some (.slice (bs us[k].2) us[k].2.length false):=zeA uq1 2 us k 1 hk (fun _ _=>rfl) (by omega)
theorem zsX (n:Nat) (us:List (Int×List UInt8)):∀ x∈uq us,Scoped n x:=fun x hx=>by
 obtain ⟨u,_,hx⟩:=List.mem_flatMap.1 hx
 simp only [uq1,List.mem_cons,List.not_mem_nil,or_false] at hx
 rcases hx with rfl|rfl
 ·exact .int _ _
 ·exact zo (zq _ _)
def zkm (u:List UInt8):List PV:=[.slice (bs u) u.length false]
def usr (U:List (List UInt8)):PV:=.slice (U.flatMap zkm) U.length false
theorem ztC (n:Nat) (U:List (List UInt8)):Scoped n (usr U):=zo fun x hx=>by
 obtain ⟨u,_,hx⟩:=List.mem_flatMap.1 hx
 simp only [zkm,List.mem_cons,List.not_mem_nil,or_false] at hx
 rw [hx]
 exact zo (zq _ _)
def cdc (p:Pi) (U:List (List UInt8)) (us:List (Int×List UInt8)):List PV:=pic p++[usr U,.slice (uq us) us.length false]
theorem zf1 (p:Pi) (U:List (List UInt8)) (us:List (Int×List UInt8)):(cdc p U us).length=8:=rfl
theorem zg7 (p:Pi) (U:List (List UInt8)) (us:List (Int×List UInt8)):(cdc p U us).all PV.cell=true:=rfl
theorem zwP (p:Pi) (U:List (List UInt8)) (us:List (Int×List UInt8)):List.take 6 (cdc p U us)=pic p:=rfl
theorem ztp (p:Pi) (U:List (List UInt8)) (us:List (Int×List UInt8)):(cdc p U us)[7]? =some (.slice (uq us) us.length false):=rfl
theorem zwO (p:Pi) (U:List (List UInt8)) (us:List (Int×List UInt8)):List.take 8 (cdc p U us)=cdc p U us:=rfl
theorem ziQ (n:Nat) (p:Pi) (U:List (List UInt8)) (us:List (Int×List UInt8)):∀ x∈cdc p U us,Scoped n x:=fun x hx=>by
 rcases List.mem_append.1 hx with hx|hx
 ·exact zl0 _ _ x hx
 ·simp only [List.mem_cons,List.not_mem_nil,or_false] at hx
  rcases hx with rfl|rfl
  ·exact ztC _ _
  ·exact zo (zsX _ _)
structure It where
 k:Int
 s:Sq
 gc:Bool
 gb:Bool
 gt:Int
 p:Pi
 U:List (List UInt8)
 us:List (Int×List UInt8)
 pad:Int
def itc (x:It):List PV:=.int .i64 x.k::(sqc x.s++(.bool x.gc:: .bool x.gb:: .int .i64 x.gt::(cdc x.p x.U x.us++[.int .i64 x.pad])))
structure ItOk (x:It):Prop where
 s:SqOk x.s
 k:zhl x.k
 gt:zhl x.gt
 pad:zhl x.pad
 ut:∀ u∈x.us,zhl u.1
theorem zlK (s:Sq) (hs:SqOk s):(sqc s).length=135:=by
 simp [sqc,ze,hs.ia,hs.ie]
theorem ziw (x:It) (h:SqOk x.s):(itc x).length=148:=by
 simp only [itc,List.length_cons,List.length_append,zlK x.s h,zf1,List.length_nil]
theorem zpP (x:It):(itc x).all PV.cell=true:=by
 simp [itc,sqc,bs,cdc,pic,usr,PV.cell]
theorem zwu (x:It):(itc x)[0]? =some (.int .i64 x.k):=rfl
theorem zws (x:It) (h:SqOk x.s):List.take 135 (List.drop 1 (itc x))=sqc x.s:=by
 show List.take 135 (sqc x.s++_)=_
 exact List.take_left' (zlK x.s h)
theorem zpO (x:It) (h:SqOk x.s) (n:Nat):List.drop (136+n) (itc x)=List.drop n (.bool x.gc:: .bool x.gb:: .int .i64 x.gt::(cdc x.p x.U x.us++[.int .i64 x.pad])):=by
 have e:List.drop 136 (itc x)= .bool x.gc:: .bool x.gb:: .int .i64 x.gt::(cdc x.p x.U x.us++[.int .i64 x.pad]):=by
  show List.drop 135 (sqc x.s++_)=_
  exact List.drop_left' (zlK x.s h)
 rw [←List.drop_drop,e]
theorem ztg (x:It) (h:SqOk x.s):List.take 8 (List.drop 139 (itc x))=cdc x.p x.U x.us:=by
 have:=zpO x h 3
 rw [this];rfl
theorem zwt (x:It) (h:SqOk x.s):List.take 6 (List.drop 139 (itc x))=pic x.p:=by
 have:=zpO x h 3
 rw [this];rfl
theorem zk4 (x:It) (h:SqOk x.s) (n:Nat):(itc x)[136+n]? =(.bool x.gc:: .bool x.gb:: .int .i64 x.gt::(cdc x.p x.U x.us++[.int .i64 x.pad]))[n]? :=by
 have:=congrArg (·[0]?) (zpO x h n)
 simpa using this
theorem zr2 (x:It) (h:SqOk x.s):(itc x)[147]? =some (.int .i64 x.pad):=zk4 x h 11
theorem zuv (n:Nat) (x:It):∀ y∈itc x,Scoped n y:=fun y hy=>by
 simp only [itc,List.mem_cons,List.mem_append,List.not_mem_nil,or_false] at hy
 rcases hy with rfl|hy|rfl|rfl|rfl|hy|rfl
 ·exact .int _ _
 ·exact zbn _ _ y hy
 ·exact .bool _
 ·exact .bool _
 ·exact .int _ _
 ·exact ziQ _ _ _ _ y hy
 ·exact .int _ _
end Go.Proofs.YtjgmdlcjbgiekaaGreatDoor.Sc
