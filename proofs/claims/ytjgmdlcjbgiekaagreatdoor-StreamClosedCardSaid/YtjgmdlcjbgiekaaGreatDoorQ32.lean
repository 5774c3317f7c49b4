/-
  Parts of the proof, put together in one text. No condition.
-/
import Derived.Test.YtjgmdlcjbgiekaaGreatDoorQ29
namespace Go.Proofs.YtjgmdlcjbgiekaaGreatDoor.Sc
set_option linter.all false
open Pm Ty Go.RowKit
def fr4 (V K:Nat) (y u v:List UInt8):Fm:=⟨((2 * V:Nat):Int),((4 * K:Nat):Int),y,u,v⟩
structure Fok (V K:Nat) (y u v:List UInt8):Prop where
 rv:1≤V∧V≤32
 rk:1≤K∧K≤16
 ly:y.length=2 * K * (2 * (2 * V))
 lu:u.length=K * (2 * V)
 lv:v.length=K * (2 * V)
def fld (V K P:Nat) (y u v:List UInt8):Fm:=⟨((2 * V:Nat):Int),((2 * K:Nat):Int),ctl y (P * (2 * V)) (2 * (2 * V)) (2 * V) (2 * K),ctl u (P * V) (2 * V) V K,ctl v (P * V) (2 * V) V K⟩
theorem zsd {V K:Nat} {y u v:List UInt8} (h:Fok V K y u v):fmd (fr4 V K y u v)=true:=by
 obtain ⟨⟨v1,v2⟩,⟨k1,k2⟩,hy,hu,hv⟩:=h
 have e1:((2 * V:Nat):Int) / 2=(V:Int):=by omega
 have e2:((4 * K:Nat):Int) / 2=((2 * K:Nat):Int):=by omega
 have e3:2 * K * (2 * (2 * V))=2 * V * (4 * K):=by rw [show 2 * (2 * V)=4 * V by omega,Nat.mul_mul_mul_comm,Nat.mul_mul_mul_comm 2 V 4 K,Nat.mul_comm K V]
 have e4:K * (2 * V)=V * (2 * K):=by rw [Nat.mul_comm K,Nat.mul_comm 2 V,Nat.mul_assoc]
 have a1:fsz ((2 * V:Nat):Int) ((4 * K:Nat):Int)=true:=by
  simp only [fsz,Bool.and_eq_true,decide_eq_true_eq]
  omega
 have a2:((2 * V * (4 * K):Nat):Int)=((2 * V:Nat):Int) * ((4 * K:Nat):Int):=Int.natCast_mul _ _
 have a3:((V * (2 * K):Nat):Int)=(V:Int) * ((2 * K:Nat):Int):=Int.natCast_mul _ _
 simp only [fmd,fr4,a1,e1,e2,hy,hu,hv,e3,e4,a2,a3,decide_true,Bool.and_self]
theorem zaA (n w P:Nat) (hP:P≤1) (p:List UInt8) (hp:p.length=n * (2 * w)):∀ k,k<n→P * w+k * (2 * w)+w≤p.length:=fun k hk=>by
 have h0:P * w≤w:=by
  have:P=0∨P=1:=by omega
  rcases this with rfl|rfl<;>simp
 have h1:(k+1) * (2 * w)≤n * (2 * w):=Nat.mul_le_mul_right _ (by omega)
 rw [Nat.add_mul] at h1
 omega
theorem zQ (n:Nat) (a b:Int) (y u v:List UInt8) (i j k:Nat) (e:Int):Scoped n (.tup [.agg [.int .i64 a,.int .i64 b,.slice (bs y) i false,.slice (bs u) j false,.slice (bs v) k false],.int .i64 e]):=.tup fun p x hx=>by
 have hm:=List.mem_of_getElem? hx
 simp only [List.mem_cons,List.not_mem_nil,or_false] at hm
 rcases hm with rfl|rfl
 ·refine zB fun x hx=> ?_
  simp only [List.mem_cons,List.not_mem_nil,or_false] at hx
  rcases hx with rfl|rfl|rfl|rfl|rfl
  ·exact .int _ _
  ·exact .int _ _
  ·exact zo (zq _ _)
  ·exact zo (zq _ _)
  ·exact zo (zq _ _)
 ·exact .int _ _
set_option maxHeartbeats 1600000 in
set_option maxRecDepth 10000 in
theorem zgY (V K P:Nat) (y u v:List UInt8) (H:za) (hf:Fok V K y u v) (hP:P≤1):
  CallOk Tryz.prog 130 [.agg (fmc (fr4 V K y u v)),.int .i64 (P:Int)] H (.tup [.agg (fmc (fld V K P y u v)),.int .i64 0]) H:=by
 have hfd:=fun H=>zaR (fr4 V K y u v) H
 rw [zsd hf] at hfd
 obtain ⟨⟨v1,v2⟩,⟨k1,k2⟩,hy,hu,hv⟩:=hf
 have ly:=zaS y (P * (2 * V)) (2 * (2 * V)) (2 * V) (2 * K) (zaA _ _ _ hP _ hy)
 have lu:=zaS u (P * V) (2 * V) V K (zaA _ _ _ hP _ hu)
 have lv:=zaS v (P * V) (2 * V) V K (zaA _ _ _ hP _ hv)
 have hPV:P * V≤32∧P * (2 * V)≤64:=by
  have:P=0∨P=1:=by omega
  rcases this with rfl|rfl<;>simp<;>omega
 have by1:y.length≤8192:=by
  have:2 * K * (2 * (2 * V))≤32 * 128:=Nat.mul_le_mul (by omega) (by omega)
  omega
 have bu1:u.length≤8192:=by
  have:K * (2 * V)≤16 * 64:=Nat.mul_le_mul (by omega) (by omega)
  omega
 have bv1:v.length≤8192:=by
  have:K * (2 * V)≤16 * 64:=Nat.mul_le_mul (by omega) (by omega)
  omega
 have c1:=fun H=>ziN y (P * (2 * V)) (2 * (2 * V)) (2 * V) (2 * K) false H (by omega) (by omega) by1 (zaA _ _ _ hP _ hy) (by omega)
 have c2:=fun H=>ziN u (P * V) (2 * V) V K false H (by omega) (by omega) bu1 (zaA _ _ _ hP _ hu) (by omega)
 have c3:=fun H=>ziN v (P * V) (2 * V) V K false H (by omega) (by omega) bv1 (zaA _ _ _ hP _ hv) (by omega)
 generalize hr:fmc (fld V K P y u v)=r
 simp only [fmc,fld,ly,lu,lv] at hr
 simp only [fmc,fr4] at hfd ⊢
 have m4:((4 * K:Nat):Int).tmod 4=0:=by rw [zV _ _ (by omega)];omega
 have d2:((4 * K:Nat):Int).tdiv 2=((2 * K:Nat):Int):=by rw [zx _ _ (by omega)];omega
 have d3:((2 * K:Nat):Int).tdiv 2=(K:Int):=by rw [zx _ _ (by omega)];omega
 have d4:((2 * V:Nat):Int).tdiv 2=(V:Int):=by rw [zx _ _ (by omega)];omega
 have x1:(P:Int) * ((2 * V:Nat):Int)=((P * (2 * V):Nat):Int):=by simp
 have x2:(2:Int) * ((2 * V:Nat):Int)=((2 * (2 * V):Nat):Int):=by simp
 have x3:((P * (2 * V):Nat):Int).tdiv 2=((P * V:Nat):Int):=by
  rw [zx _ _ (by omega)]
  have:P=0∨P=1:=by omega
  rcases this with rfl|rfl<;>simp<;>omega
 refine CallOk.body (F0:=[(0,.agg [.int .i64 ((2 * V:Nat):Int),.int .i64 ((4 * K:Nat):Int),.slice (bs y) y.length false,.slice (bs u) u.length false,.slice (bs v) v.length false]),(1,.int .i64 (P:Int))]) Tryz.func130 rfl Tryz.ntmps130 Tryz.results130 rfl (by kernel_rfl) rfl ?_
 refine PW.e ?_
 (repeat refine PW.seq ?_)
 refine PW.rgv (P:=Tryz.prog) [1,2,4] 24 (.bool false) ?_ ?_ ?_
 ·rfl
 ·simp (disch:=omega) only [go_sem,↓reduceIte,reduceCtorEq];(repeat' (first|((first|refine zj ?_ ?_|refine And.intro ?_ ?_)<;>intro h<;>(try simp only [nqb] at h)<;>simp (disch:=omega) only [go_sem,↓reduceIte,reduceCtorEq,m4,h])|((first|refine VCx.call (hfd _) rfl ?_);simp (disch:=omega) only [go_sem,↓reduceIte,reduceCtorEq,m4])))
  all_goals (simp_all [slot,Nat.beq]<;>first|rfl|omega|(rw [Bool.eq_iff_iff];simp;done)|(rw [Bool.eq_iff_iff];simp;omega))
 refine PW.us ?_
 (repeat refine PW.seq ?_);refine PW.draw mix (by kernel_rfl) fun K hK=> ?_;simp (disch:=omega) only [go_sem,↓reduceIte,reduceCtorEq,d2];refine hK _ _ ?_;clear hK K
 (repeat refine PW.seq ?_);refine PW.draw mix (by kernel_rfl) fun K hK=> ?_;simp (disch:=omega) only [go_sem,↓reduceIte,reduceCtorEq,x1,x2,x3,d3,d4]
 (repeat' (first|((first|refine zn ?_ ?_|refine And.intro ?_ ?_)<;>intro h<;>(try simp only [nqb] at h)<;>simp (disch:=omega) only [go_sem,↓reduceIte,reduceCtorEq,x1,x2,x3,d3,d4,h])|((first|refine VCy.call (c1 _) rfl ?_|refine VCy.call (c2 _) rfl ?_|refine VCy.call (c3 _) rfl ?_);simp (disch:=omega) only [go_sem,↓reduceIte,reduceCtorEq,x1,x2,x3,d3,d4])))
 refine hK _ _ ?_;clear hK K
 refine PW.ret ⟨.tup [.agg [.int .i64 ((2 * V:Nat):Int),.int .i64 ((2 * K:Nat):Int),.slice (bs (ctl y (P * (2 * V)) (2 * (2 * V)) (2 * V) (2 * K))) (2 * K * (2 * V)) false,.slice (bs (ctl u (P * V) (2 * V) V K)) (K * V) false,.slice (bs (ctl v (P * V) (2 * V) V K)) (K * V) false],.int .i64 0],by simp (disch:=omega) only [go_sem,↓reduceIte,reduceCtorEq,zd,zg,List.mapM_cons,List.mapM_nil,Option.pure_def,Option.bind_eq_bind,Option.bind_some,Array.toList],?_⟩
 rw [←hr]
 exact Fin.base (.id (zQ _ _ _ _ _ _ _ _ _ _))
theorem zg6 (p:List UInt8) (f:Bool) (H:za) (hp:1≤p.length∧p.length≤100000):CallOk Tryz.prog 131 [.slice (bs p) p.length f] H (.slice (bs p) p.length false) H:=by
 refine CallOk.body (F0:=[(0,.slice (bs p) p.length f)]) Tryz.func131 rfl Tryz.ntmps131 Tryz.results131 rfl (by kernel_rfl) rfl ?_
 refine PW.e ?_
 refine PW.e ?_
 refine PW.us ?_
 refine PW.f (fun K k=>by simp (disch:=omega) only [go_sem,↓reduceIte,reduceCtorEq,ze];exact k) ?_
 refine PW.ret ⟨_,rfl,?_⟩
 exact Fin.base (Fz.mslC (e:=5) (xs:=bs p) (Nat.le_refl _) (by simp [ze]) (by rw [ze];omega) (FzC.refl (zq _ _)))
theorem zh3 (p q:List UInt8) (f g:Bool) (H:za):CallOk Tryz.prog 24 [.slice (bs p) p.length f,.slice (bs q) q.length g] H (.bool (p==q)) H:=by
 refine CallOk.body (F0:=[(0,.slice (bs p) p.length f),(1,.slice (bs q) q.length g)]) Tryz.func24 rfl Tryz.ntmps24 Tryz.results24 rfl (by kernel_rfl) rfl ?_
 refine PW.e ?_
 refine PW.f (fun K k=>by simp (disch:=omega) only [go_sem,↓reduceIte,reduceCtorEq,ze,znh];exact k) ?_
 exact PW.ret ⟨_,rfl,.inl ⟨rfl,rfl⟩⟩
theorem znr (f:Fm) (H:za):CallOk Tryz.prog 16 [.agg (fmc f),.agg (fmc f)] H (.bool true) H:=by
 obtain ⟨w,ht,y,u,v⟩:=f
 have s1:=fun H=>zh3 y y false false H
 have s2:=fun H=>zh3 u u false false H
 have s3:=fun H=>zh3 v v false false H
 simp only [beq_self_eq_true] at s1 s2 s3
 refine CallOk.body (F0:=[(0,.agg (fmc ⟨w,ht,y,u,v⟩)),(1,.agg (fmc ⟨w,ht,y,u,v⟩))]) Tryz.func16 rfl Tryz.ntmps16 Tryz.results16 rfl (by kernel_rfl) rfl ?_
 (repeat' (first|refine PW.seq ?_|refine PW.skip ?_|refine PW.block ?_|((first|refine PW.rg rfl fun K hK=> ?_|refine PW.draw mix (by kernel_rfl) fun K hK=> ?_);simp (disch:=omega) only [go_sem,↓reduceIte,reduceCtorEq,fmc])|((first|refine zj ?_ ?_|refine zn ?_ ?_|refine And.intro ?_ ?_)<;>intro h<;>(try simp only [nqb] at h)<;>simp (disch:=omega) only [go_sem,↓reduceIte,reduceCtorEq,fmc,h])|((first|refine VCx.call (s1 _) rfl ?_|refine VCx.call (s2 _) rfl ?_|refine VCx.call (s3 _) rfl ?_|refine VCy.call (s1 _) rfl ?_|refine VCy.call (s2 _) rfl ?_|refine VCy.call (s3 _) rfl ?_);simp (disch:=omega) only [go_sem,↓reduceIte,reduceCtorEq,fmc])|(refine hK _ _ ?_;clear hK K)|(refine PW.cond (t:=_) rfl (fun h=> ?_) (fun h=> ?_)<;>(try (cases h;done))<;>(try simp only [nqb] at h))))
 all_goals ((refine PW.ret ⟨_,rfl,?_⟩;first|refine .inl ⟨?_,rfl⟩|refine Fin.base (.id' ?_ (.bool _))|refine Fin.base (.id' ?_ (.int _ _)));(simp_all [slot,Nat.beq]<;>first|rfl|omega|(rw [Bool.eq_iff_iff];simp;done)|(rw [Bool.eq_iff_iff];simp;omega)))
def pcx (c:Cx):Int:=if c.s=2 then 1 else 0
theorem zkU (c:Cx) (H:za):CallOk Tryz.prog 216 [.agg (cxc c)] H (.int .i64 (pcx c)) H:=by
 obtain ⟨t,s,i,n⟩:=c
 refine CallOk.body (F0:=[(0,.agg [.int .i64 t,.int .i64 s,.bool i,.bool n])]) Tryz.func216 rfl Tryz.ntmps216 Tryz.results216 rfl (by kernel_rfl) rfl ?_
 (repeat' (first|refine PW.seq ?_|refine PW.skip ?_|refine PW.block ?_|((first|refine PW.rg rfl fun K hK=> ?_|refine PW.draw mix (by kernel_rfl) fun K hK=> ?_);simp (disch:=omega) only [go_sem,↓reduceIte,reduceCtorEq])|((first|refine zj ?_ ?_|refine zn ?_ ?_|refine And.intro ?_ ?_)<;>intro h<;>(try simp only [nqb] at h)<;>simp (disch:=omega) only [go_sem,↓reduceIte,reduceCtorEq,h])|(refine hK _ _ ?_;clear hK K)|(refine PW.cond (t:=_) rfl (fun h=> ?_) (fun h=> ?_)<;>(try (cases h;done))<;>(try simp only [nqb] at h))))
 all_goals ((refine PW.ret ⟨_,rfl,?_⟩;first|refine .inl ⟨?_,rfl⟩|refine Fin.base (.id' ?_ (.bool _))|refine Fin.base (.id' ?_ (.int _ _)));(simp_all [pcx,slot,Nat.beq]<;>first|rfl|omega|(rw [Bool.eq_iff_iff];simp;done)|(rw [Bool.eq_iff_iff];simp;omega)))
def f0:Fm:=⟨0,0,[],[],[]⟩
def ziU (c:Cx) (dir sel:Int):Bool:= !(vcx c)||((decide (dir≠0)&&decide (dir≠1))||(fcx c&&(decide (sel≠0)&&decide (sel≠1))))
def zdj (c:Cx) (pa fu fi:Fm) (dir sel:Int):Fm×Bool:=if dir=1 then (fu,!(fcx c)) else if (c.n&&(decide (c.t=2)&&decide (sel≠pcx c)))=true then (fi,true) else (pa,!(fcx c))
def fieldOf (f:Fm) (sel:Int):Fm:=fld (f.w / 2).toNat (f.h / 4).toNat sel.toNat f.y f.u f.v
def lastF (f:Fm) (wh:Bool) (sel:Int):Fm×Int:=if f.w=0 then (f0,6) else if (!(fvd f)||(!wh&&decide (f.h%32≠0)))=true then (f0,1) else if wh=true then (f,0) else (fieldOf f sel,0)
def refS (c:Cx) (pa fu fi:Fm) (dir sel:Int):Fm×Int:=if ziU c dir sel=true then (f0,1) else lastF (zdj c pa fu fi dir sel).1 (zdj c pa fu fi dir sel).2 sel
theorem fz0 (n:Nat) (K:za) (e:Int):Fz n K (.tup [.agg [.int .i64 0,.int .i64 0,.slice [] 0 true,.slice [] 0 true,.slice [] 0 true],.int .i64 e]) (.tup [.agg (fmc f0),.int .i64 e]):=
 Fz.tupC ⟨Fz.aggC ⟨.id (.int _ _),.id (.int _ _),.slice rfl (fun j x y hx=>by simp at hx) (fun e=>by cases e),.slice rfl (fun j x y hx=>by simp at hx) (fun e=>by cases e),.slice rfl (fun j x y hx=>by simp at hx) (fun e=>by cases e),trivial⟩,.id (.int _ _),trivial⟩
theorem zdJ {w ht:Int} {y u v:List UInt8} (h:fvd ⟨w,ht,y,u,v⟩=true) (h32:ht%32=0):∃ V K:Nat,w=((2 * V:Nat):Int)∧ht=((4 * K:Nat):Int)∧Fok V K y u v:=by
 simp only [fvd,fmd,Bool.and_eq_true,decide_eq_true_eq] at h
 obtain ⟨⟨hs,hy,hu,hv⟩,hw,hh⟩:=h
 obtain ⟨g1,g2,g3,g4,g5,g6⟩:=zcW hs
 refine ⟨(w / 2).toNat,(ht / 4).toNat,by omega,by omega,?_⟩
 obtain ⟨V,hV⟩:∃ V:Nat,(w / 2).toNat=V:=⟨_,rfl⟩
 obtain ⟨K,hK⟩:∃ K:Nat,(ht / 4).toNat=K:=⟨_,rfl⟩
 rw [hV,hK]
 have e1:w=((2 * V:Nat):Int):=by omega
 have e2:ht=((4 * K:Nat):Int):=by omega
 have e3:2 * K * (2 * (2 * V))=2 * V * (4 * K):=by rw [show 2 * (2 * V)=4 * V by omega,Nat.mul_mul_mul_comm,Nat.mul_mul_mul_comm 2 V 4 K,Nat.mul_comm K V]
 have e4:K * (2 * V)=V * (2 * K):=by rw [Nat.mul_comm K,Nat.mul_comm 2 V,Nat.mul_assoc]
 have d1:w / 2=(V:Int):=by omega
 have d2:ht / 2=((2 * K:Nat):Int):=by omega
 rw [d1,d2] at hu hv
 rw [e1,e2] at hy
 refine ⟨by omega,by omega,?_,?_,?_⟩
 ·rw [e3];exact Int.ofNat_inj.1 (hy.trans (Int.natCast_mul _ _).symm)
 ·rw [e4];exact Int.ofNat_inj.1 (hu.trans (Int.natCast_mul _ _).symm)
 ·rw [e4];exact Int.ofNat_inj.1 (hv.trans (Int.natCast_mul _ _).symm)
theorem zaN (V K P:Nat) (y u v:List UInt8):fieldOf (fr4 V K y u v) (P:Int)=fld V K P y u v:=by
 have e1:(((2 * V:Nat):Int) / 2).toNat=V:=by omega
 have e2:(((4 * K:Nat):Int) / 4).toNat=K:=by omega
 simp only [fieldOf,fr4,e1,e2,Int.toNat_natCast]
set_option maxHeartbeats 1600000 in
set_option maxRecDepth 10000 in
theorem zh8 (c:Cx) (pa fu fi:Fm) (dir sel:Int) (H:za):CallOk Tryz.prog 217 [.agg (cxc c),.agg (fmc pa++(fmc fu++fmc fi)),.int .i64 dir,.int .i64 sel] H (.tup [.agg (fmc (refS c pa fu fi dir sel).1),.int .i64 (refS c pa fu fi dir sel).2]) H:=by
 generalize hr:refS c pa fu fi dir sel=r
 have vc:=fun H=>zkl c H
 have fc:=fun H=>zlg c H
 have pc:=fun H=>zkU c H
 obtain ⟨t,s,i,n⟩:=c
 obtain ⟨w1,h1,y1,u1,v1⟩:=pa
 obtain ⟨w2,h2,y2,u2,v2⟩:=fu
 obtain ⟨w3,h3,y3,u3,v3⟩:=fi
 simp only [fmc,List.cons_append,List.nil_append]
 refine CallOk.body (F0:=[(0,.agg [.int .i64 t,.int .i64 s,.bool i,.bool n]),(1,.agg [.int .i64 w1,.int .i64 h1,.slice (bs y1) y1.length false,.slice (bs u1) u1.length false,.slice (bs v1) v1.length false,.int .i64 w2,.int .i64 h2,.slice (bs y2) y2.length false,.slice (bs u2) u2.length false,.slice (bs v2) v2.length false,.int .i64 w3,.int .i64 h3,.slice (bs y3) y3.length false,.slice (bs u3) u3.length false,.slice (bs v3) v3.length false]),(2,.int .i64 dir),(3,.int .i64 sel)]) Tryz.func217 rfl Tryz.ntmps217 Tryz.results217 rfl (by kernel_rfl) rfl ?_
 refine PW.e ?_
 (repeat refine PW.seq ?_)
 refine PW.rgv (P:=Tryz.prog) [2,3,4,5,8] 34 (.bool (ziU ⟨t,s,i,n⟩ dir sel)) ?_ ?_ ?_
 ·rfl
 ·cases hv:vcx ⟨t,s,i,n⟩<;>cases hf:fcx ⟨t,s,i,n⟩
  all_goals (rw [hv] at vc;rw [hf] at fc;simp (disch:=omega) only [go_sem,↓reduceIte,reduceCtorEq];(repeat' (first|((first|refine zj ?_ ?_|refine And.intro ?_ ?_)<;>intro h<;>(try simp only [nqb] at h)<;>simp (disch:=omega) only [go_sem,↓reduceIte,reduceCtorEq,h])|((first|refine VCx.call (vc _) rfl ?_|refine VCx.call (fc _) rfl ?_);simp (disch:=omega) only [go_sem,↓reduceIte,reduceCtorEq]))))
  all_goals (clear vc fc pc hr;(simp_all [ziU,slot,Nat.beq]<;>first|rfl|omega|(rw [Bool.eq_iff_iff];simp;done)|(rw [Bool.eq_iff_iff];simp;omega)))
 (repeat refine PW.seq ?_);refine PW.cond (t:=_) rfl (fun h=> ?_) (fun h=> ?_)
 ·have hb:ziU ⟨t,s,i,n⟩ dir sel=true:=h
  refine PW.e ?_
  refine PW.ret ⟨.tup [.agg [.int .i64 0,.int .i64 0,.slice [] 0 true,.slice [] 0 true,.slice [] 0 true],.int .i64 1],by simp (disch:=omega) only [go_sem,↓reduceIte,reduceCtorEq,zd,zg,List.mapM_cons,List.mapM_nil,Option.pure_def,Option.bind_eq_bind,Option.bind_some,Array.toList],?_⟩
  rw [←hr,refS,if_pos hb]
  exact Fin.base (fz0 _ _ _)
 have hb:ziU ⟨t,s,i,n⟩ dir sel=false:=h
 refine PW.skip ?_
 (repeat refine PW.seq ?_);refine PW.drawg mix (by kernel_rfl) fun K hK=> ?_;simp (disch:=omega) only [go_sem,↓reduceIte,reduceCtorEq];refine VCz.call (fun _=>fc _) rfl ?_;simp (disch:=omega) only [go_sem,↓reduceIte,reduceCtorEq];refine hK _ _ ?_;clear hK K
 have hr2:lastF (zdj ⟨t,s,i,n⟩ ⟨w1,h1,y1,u1,v1⟩ ⟨w2,h2,y2,u2,v2⟩ ⟨w3,h3,y3,u3,v3⟩ dir sel).1 (zdj ⟨t,s,i,n⟩ ⟨w1,h1,y1,u1,v1⟩ ⟨w2,h2,y2,u2,v2⟩ ⟨w3,h3,y3,u3,v3⟩ dir sel).2 sel=r:=by rw [←hr,refS,if_neg (by rw [hb];simp)]
 have hwh:(zdj ⟨t,s,i,n⟩ ⟨w1,h1,y1,u1,v1⟩ ⟨w2,h2,y2,u2,v2⟩ ⟨w3,h3,y3,u3,v3⟩ dir sel).2=false→sel=0∨sel=1:=fun hw=>by
  have hf:fcx ⟨t,s,i,n⟩=true:=by
   unfold zdj at hw
   split at hw
   ·simpa using hw
   ·split at hw
    ·cases hw
    ·simpa using hw
  rw [ziU,hf] at hb
  simp at hb
  omega
 generalize hpk:zdj ⟨t,s,i,n⟩ ⟨w1,h1,y1,u1,v1⟩ ⟨w2,h2,y2,u2,v2⟩ ⟨w3,h3,y3,u3,v3⟩ dir sel=pk1 at hr2 hwh
 obtain ⟨⟨w,ht,y,u,v⟩,wh⟩:=pk1
 simp only at hr2 hwh
 refine PW.to [3,8,10,11] [(3,.int .i64 sel),(8,.ptr (H.length+2) 0 0),(10,.ptr (H.length+3) 0 0),(11,.bool wh)] (H++[⟨157,0,[.int .i64 t,.int .i64 s,.bool i,.bool n]⟩,⟨87,0,[.int .i64 w1,.int .i64 h1,.slice (bs y1) y1.length false,.slice (bs u1) u1.length false,.slice (bs v1) v1.length false,.int .i64 w2,.int .i64 h2,.slice (bs y2) y2.length false,.slice (bs u2) u2.length false,.slice (bs v2) v2.length false,.int .i64 w3,.int .i64 h3,.slice (bs y3) y3.length false,.slice (bs u3) u3.length false,.slice (bs v3) v3.length false]⟩,⟨33,0,[.int .i64 0,.int .i64 0,.slice [] 0 true,.slice [] 0 true,.slice [] 0 true]⟩,⟨33,0,[.int .i64 w,.int .i64 ht,.slice (bs y) y.length false,.slice (bs u) u.length false,.slice (bs v) v.length false]⟩]) ?_ ?_
 ·clear hr2 hwh hr
  (repeat refine PW.seq ?_);refine PW.block ?_
  refine PW.e ?_
  (repeat refine PW.seq ?_);refine PW.cond (t:=_) rfl (fun h=> ?_) (fun h=> ?_)
  ·have hd:dir=1:=by simpa using h
   rw [zdj,if_pos hd] at hpk
   simp only [Prod.mk.injEq,Fm.mk.injEq] at hpk
   obtain ⟨⟨rfl,rfl,rfl,rfl,rfl⟩,rfl⟩:=hpk
   refine PW.e ?_
   exact ⟨rfl,rfl⟩
  ·have hd:dir≠1:=by simpa using h
   rw [zdj,if_neg hd] at hpk
   (repeat refine PW.seq ?_)
   refine PW.rgv (P:=Tryz.prog) [3,5,8,10,11] 46 (.bool (n&&(decide (t=2)&&decide (sel≠pcx ⟨t,s,i,n⟩)))) ?_ ?_ ?_
   ·rfl
   ·simp (disch:=omega) only [go_sem,↓reduceIte,reduceCtorEq];(repeat' (first|((first|refine zj ?_ ?_|refine And.intro ?_ ?_)<;>intro h<;>(try simp only [nqb] at h)<;>simp (disch:=omega) only [go_sem,↓reduceIte,reduceCtorEq,h])|((first|refine VCx.call (zkU ⟨_,_,_,_⟩ _) rfl ?_);simp (disch:=omega) only [go_sem,↓reduceIte,reduceCtorEq])))
    all_goals (clear vc fc pc hpk;first|(simp_all [slot,Nat.beq]<;>first|rfl|omega|(rw [Bool.eq_iff_iff];simp;done)|(rw [Bool.eq_iff_iff];simp;omega))|(simp_all [pcx,slot,Nat.beq]<;>first|rfl|omega|(rw [Bool.eq_iff_iff];simp;done)|(rw [Bool.eq_iff_iff];simp;omega)))
   (repeat refine PW.seq ?_);refine PW.cond (t:=_) rfl (fun h=> ?_) (fun h=> ?_)
   ·rw [if_pos h] at hpk
    simp only [Prod.mk.injEq,Fm.mk.injEq] at hpk
    obtain ⟨⟨rfl,rfl,rfl,rfl,rfl⟩,rfl⟩:=hpk
    refine PW.e ?_
    exact ⟨rfl,rfl⟩
   ·rw [if_neg (by rw [h];simp)] at hpk
    simp only [Prod.mk.injEq,Fm.mk.injEq] at hpk
    obtain ⟨⟨rfl,rfl,rfl,rfl,rfl⟩,rfl⟩:=hpk
    refine PW.skip ?_
    exact ⟨rfl,rfl⟩
 clear hpk hr hb vc fc pc
 refine PW.e ?_
 (repeat refine PW.seq ?_);refine PW.cond (t:=_) rfl (fun h=> ?_) (fun h=> ?_)
 ·have hw0:w=0:=by simpa using h
  refine PW.e ?_
  refine PW.ret ⟨.tup [.agg [.int .i64 0,.int .i64 0,.slice [] 0 true,.slice [] 0 true,.slice [] 0 true],.int .i64 6],by simp (disch:=omega) only [go_sem,↓reduceIte,reduceCtorEq,zd,zg,List.mapM_cons,List.mapM_nil,Option.pure_def,Option.bind_eq_bind,Option.bind_some,Array.toList],?_⟩
  rw [←hr2,lastF,if_pos hw0]
  exact Fin.base (fz0 _ _ _)
 have hw0:w≠0:=by simpa using h
 rw [lastF,if_neg (by exact hw0)] at hr2
 refine PW.skip ?_
 have va:=fun H=>zgb ⟨w,ht,y,u,v⟩ H
 (repeat refine PW.seq ?_)
 refine PW.rgv (P:=Tryz.prog) [3,8,10,11] 78 (.bool (!(fvd ⟨w,ht,y,u,v⟩)||(!wh&&decide (ht%32≠0)))) ?_ ?_ ?_
 ·rfl
 ·cases hv:fvd ⟨w,ht,y,u,v⟩
  ·rw [hv] at va
   simp (disch:=omega) only [go_sem,↓reduceIte,reduceCtorEq];(repeat' (first|((first|refine zj ?_ ?_|refine And.intro ?_ ?_)<;>intro h<;>(try simp only [nqb] at h)<;>simp (disch:=omega) only [go_sem,↓reduceIte,reduceCtorEq,h])|((first|refine VCx.call (va _) rfl ?_);simp (disch:=omega) only [go_sem,↓reduceIte,reduceCtorEq])))
   all_goals (clear va hr2 hwh;(simp_all [slot,Nat.beq]<;>first|rfl|omega|(rw [Bool.eq_iff_iff];simp;done)|(rw [Bool.eq_iff_iff];simp;omega)))
  ·rw [hv] at va
   have hpos:0≤ht:=by
    simp only [fvd,fmd,Bool.and_eq_true] at hv
    have:=zcW hv.1.1
    omega
   simp (disch:=omega) only [go_sem,↓reduceIte,reduceCtorEq];(repeat' (first|((first|refine zj ?_ ?_|refine And.intro ?_ ?_)<;>intro h<;>(try simp only [nqb] at h)<;>simp (disch:=omega) only [go_sem,↓reduceIte,reduceCtorEq,zV,h])|((first|refine VCx.call (va _) rfl ?_);simp (disch:=omega) only [go_sem,↓reduceIte,reduceCtorEq,zV])))
   all_goals (clear va hr2 hwh;(simp_all [slot,Nat.beq]<;>first|rfl|omega|(rw [Bool.eq_iff_iff];simp;done)|(rw [Bool.eq_iff_iff];simp;omega)))
 (repeat refine PW.seq ?_);refine PW.cond (t:=_) rfl (fun h=> ?_) (fun h=> ?_)
 ·have hq:(!(fvd ⟨w,ht,y,u,v⟩)||(!wh&&decide (ht%32≠0)))=true:=h
  refine PW.e ?_
  refine PW.ret ⟨.tup [.agg [.int .i64 0,.int .i64 0,.slice [] 0 true,.slice [] 0 true,.slice [] 0 true],.int .i64 1],by simp (disch:=omega) only [go_sem,↓reduceIte,reduceCtorEq,zd,zg,List.mapM_cons,List.mapM_nil,Option.pure_def,Option.bind_eq_bind,Option.bind_some,Array.toList],?_⟩
  rw [if_pos hq] at hr2
  rw [←hr2]
  exact Fin.base (fz0 _ _ _)
 have hq:(!(fvd ⟨w,ht,y,u,v⟩)||(!wh&&decide (ht%32≠0)))=false:=h
 rw [if_neg (by rw [hq];simp)] at hr2
 refine PW.skip ?_
 refine PW.e ?_
 (repeat refine PW.seq ?_);refine PW.cond (t:=_) rfl (fun h=> ?_) (fun h=> ?_)
 ·subst h
  refine PW.e ?_
  refine PW.ret ⟨.tup [.agg [.int .i64 w,.int .i64 ht,.slice (bs y) y.length false,.slice (bs u) u.length false,.slice (bs v) v.length false],.int .i64 0],by simp (disch:=omega) only [go_sem,↓reduceIte,reduceCtorEq,zd,zg,List.mapM_cons,List.mapM_nil,Option.pure_def,Option.bind_eq_bind,Option.bind_some,Array.toList],?_⟩
  rw [if_pos rfl] at hr2
  rw [←hr2]
  exact Fin.base (.id (zQ _ _ _ _ _ _ _ _ _ _))
 ·subst h
  refine PW.skip ?_
  have hq1:fvd ⟨w,ht,y,u,v⟩=true:=by
   cases hv:fvd ⟨w,ht,y,u,v⟩ with
   | true=>rfl
   | false=>rw [hv] at hq;cases hq
  have hq2:ht%32=0:=by rw [hq1] at hq;simp at hq;omega
  obtain ⟨V,K,rfl,rfl,hok⟩:=zdJ hq1 hq2
  obtain ⟨P,hP,rfl⟩:∃ P:Nat,P≤1∧sel=(P:Int):=by
   rcases hwh rfl with e|e
   ·exact ⟨0,by omega,by omega⟩
   ·exact ⟨1,by omega,by omega⟩
  have fo:=fun H=>zgY V K P y u v H hok hP
  have e1:=zaN V K P y u v
  rw [if_neg (by simp)] at hr2
  have hr3:r=(fld V K P y u v,0):=by rw [←hr2,←e1];rfl
  rw [hr3]
  obtain ⟨g,hg⟩:∃ g,fld V K P y u v=g:=⟨_,rfl⟩
  rw [hg] at fo ⊢
  obtain ⟨a1,a2,a3,a4,a5⟩:=g
  simp only [fmc,fr4] at fo ⊢
  refine PW.f (fun K k=>by simp (disch:=omega) only [go_sem,↓reduceIte,reduceCtorEq];refine VCx.call (fo _) rfl ?_;simp (disch:=omega) only [go_sem,↓reduceIte,reduceCtorEq];exact k) ?_
  refine PW.ret ⟨.tup [.agg [.int .i64 a1,.int .i64 a2,.slice (bs a3) a3.length false,.slice (bs a4) a4.length false,.slice (bs a5) a5.length false],.int .i64 0],by simp (disch:=omega) only [go_sem,↓reduceIte,reduceCtorEq,zd,zg,List.mapM_cons,List.mapM_nil,Option.pure_def,Option.bind_eq_bind,Option.bind_some,Array.toList],?_⟩
  exact Fin.base (.id (zQ _ _ _ _ _ _ _ _ _ _))
end Go.Proofs.YtjgmdlcjbgiekaaGreatDoor.Sc
namespace Go.Proofs.YtjgmdlcjbgiekaaGreatDoor.Pm
set_option linter.all false
open Go.RowKit
variable {P:Program} {C:Ctx} {H:za} {w:World} {F:Fr} {a:Act} {N:Nat}
noncomputable def opE (P:Program) (n:Nat) (ds:List (Option Nat)) (o:Oper) (F:Fr) (H:za):Option (Fr×za):=
 match zJ o.op with
 | false=>stp P ds o F H
 | true=>match zac ds F o with
  | some true=>match zr o.op (slot F) with
   | some (g,args)=>match zgZ P n (.call g args H) with
    | some (.val v H1)=>some (put F o.dst v,H1)
    | _=>none
   | none=>none
  | some false=>some (put F o.dst (.tup []),H)
  | none=>none
theorem zni {n:Nat} {all:List Oper} {o:Oper} {F1:Fr} {H1:za} (h:opE P n (all.map (·.dst)) o F H=some (F1,H1)):
  (za7 all (slot F) o=some false∧F1=put F o.dst (.tup [])∧H1=H)∨(za7 all (slot F) o=some true∧∃ v,Exec P o (slot F) H v H1∧F1=put F o.dst v):=by
 have hcl:zJ o.op=false→zr o.op (slot F)=none:=fun hc=>by
  unfold zr
  split
  ·rename_i f args ts ho;rw [ho] at hc;simp [zJ] at hc
  ·rfl
 unfold opE at h
 split at h
 ·rename_i hc
  unfold stp at h
  split at h
  ·rename_i hb
   split at h
   ·rename_i v H' hp
    simp only [Option.some.injEq,Prod.mk.injEq] at h
    obtain ⟨rfl,rfl⟩:=h
    exact .inr ⟨zu all F o hb,v,by unfold Exec;rw [hcl hc];exact hp,rfl⟩
   ·cases h
  ·rename_i hb
   simp only [Option.some.injEq,Prod.mk.injEq] at h
   obtain ⟨rfl,rfl⟩:=h
   exact .inl ⟨zu all F o hb,rfl,rfl⟩
  ·cases h
 ·split at h
  ·rename_i hb
   split at h
   ·rename_i g args hp
    split at h
    ·rename_i v H' he
     simp only [Option.some.injEq,Prod.mk.injEq] at h
     obtain ⟨rfl,rfl⟩:=h
     exact .inr ⟨zu all F o hb,v,by unfold Exec;rw [hp];exact zd5 n _ _ he,rfl⟩
    ·cases h
   ·cases h
  ·rename_i hb
   simp only [Option.some.injEq,Prod.mk.injEq] at h
   obtain ⟨rfl,rfl⟩:=h
   exact .inl ⟨zu all F o hb,rfl,rfl⟩
  ·cases h
def zfZ {α:Type} (g:Nat→Option (List α)):List Nat→Option (List α)
 | []=>some []
 | i::r=>match g i with
  | some x=>match zfZ g r with
   | some y=>some (x++y)
   | none=>none
  | none=>none
theorem zfy {α:Type} {g:Nat→Option (List α)}:∀ {l:List Nat} {L:List α},zfZ g l=some L→∀ i∈l,∃ x,g i=some x∧∀ y∈x,y∈L
 | [],L,_,i,hi=>by cases hi
 | j::r,L,h,i,hi=>by
  simp only [zfZ] at h
  split at h
  ·rename_i x hx
   split at h
   ·rename_i y hy
    injection h with h
    subst h
    rcases List.mem_cons.1 hi with rfl|hi
    ·exact ⟨x,hx,fun z hz=>List.mem_append.2 (.inl hz)⟩
    ·obtain ⟨x',h1,h2⟩:=zfy hy i hi
     exact ⟨x',h1,fun z hz=>List.mem_append.2 (.inr (h2 z hz))⟩
   ·cases h
  ·cases h
noncomputable def zqI (P:Program) (n N:Nat) (ops:Array Oper):Nat→Array Bool→Fr→za→Option (List (Fr×za))
 | 0,listed,F,H=>match Region.ready .any ops listed with|[]=>some [(F,H)]|_=>none
 | k+1,listed,F,H=>match Region.ready .any ops listed with
  | []=>some [(F,H)]
  | r=>zfZ (fun i=>match ops[i]? with
   | some o=>match zR N o with
    | true=>match opE P n (ops.toList.map (·.dst)) o F H with
     | some (F1,H1)=>zqI P n N ops k (listed.setIfInBounds i true) F1 H1
     | none=>none
    | false=>none
   | none=>none) r
theorem zg9 {n:Nat} {ops:Array Oper} {Q:Exit→Act→World→Prop}:∀ (k:Nat) (listed:Array Bool) (F:Fr) (H:za) (L:List (Fr×za)),zqI P n N ops k listed F H=some L→∀ (C:Ctx) (a:Act) (w:World),a.defers=[]→WRel C H w→FRel C N (slot F) a→
  (∀ C' F' H' a' w',CLe C C'→a'.defers=[]→WRel C' H' w'→Below C.B w w'→FRel C' N (slot F') a'→(F',H')∈L→Q .normal a' w')→wpAny P .any ops Q k listed a w
 | 0,listed,F,H,L,h,C,a,w,hd,hw,hf,hQ=>by
  simp only [zqI] at h
  split at h
  ·rename_i hr
   injection h with h
   subst h
   exact ⟨hr,hQ C F H a w (.refl _) hd hw (.refl _ _) hf (by simp)⟩
  ·cases h
 | k+1,listed,F,H,L,h,C,a,w,hd,hw,hf,hQ=>by
  simp only [zqI] at h
  split at h
  ·rename_i hr
   injection h with h
   subst h
   exact ⟨fun _=>hQ C F H a w (.refl _) hd hw (.refl _ _) hf (by simp),fun i hi=>by rw [hr] at hi;cases hi⟩
  ·rename_i hne
   refine ⟨fun e=>absurd e hne,fun i hi=> ?_⟩
   obtain ⟨x,hx,hsub⟩:=zfy h i hi
   split at hx
   ·rename_i o ho
    split at hx
    ·rename_i hdst
     split at hx
     ·rename_i F1 H1 hop
      unfold wpOp
      rw [ho]
      simp only
      have next:∀ C' u w' v,F1=put F o.dst v→CLe C C'→WRel C' H1 w'→Below C.B w w'→FRel C' N (upd (slot F) o.dst v) (a.put o.dst u)→wpAny P .any ops Q k (listed.setIfInBounds i true) (a.put o.dst u) w':=by
       intro C' u w' v hF1 q1 q2 q3 q4
       refine zg9 k _ F1 H1 x hx C' _ w' (by cases hod:o.dst<;>simp [Act.put,hd]) q2 (by rw [hF1,zX];exact q4) ?_
       intro C'' F'' H'' a'' w'' p1 p2 p3 p4 p5 p6
       exact hQ C'' F'' H'' a'' w'' (q1.trans p1) p2 p3 (q3.trans (by rw [←q1.B];exact p4)) p5 (hsub _ p6)
      rcases zni hop with ⟨h1,h2,h3⟩|⟨h1,v,h2,h3⟩
      ·have hwant:=zP hf h1
       rw [Array.toArray_toList] at hwant
       rw [if_neg (by rw [hwant];simp)]
       exact next C _ w (.tup []) h2 (.refl _) (h3▸hw) (.refl _ _) (hf.put o.dst (zas hdst) VRel.undefV)
      ·have hwant:=zP hf h1
       rw [Array.toArray_toList] at hwant
       rw [if_pos hwant]
       left
       exact zcY hdst hw hf h2 _ _ (fun C' u w' q1 q2 q3 q4=>next C' u w' v h3 q1 q2 q3 q4)
     ·cases hx
    ·cases hx
   ·cases hx
theorem PW.any {E:Env} {Q:Exit→Fr→za→Prop} {id n:Nat} {ops:Array Oper} {L:List (Fr×za)} (hm:P.follows .mixedOrders=true) (h:zqI P n E.N ops ops.size (Array.replicate ops.size false) F H=some L) (hQ:∀ F' H',(F',H')∈L→Q .normal F' H'):
  PW P E (.region id ops true) F H Q:=fun hs C a w hdf hw hf=>by
 refine wp_region_any hm ?_
 refine zg9 ops.size _ F H L h C a w.drew hdf hw.drew hf ?_
 rintro C' F' H' a' w' p1 p2 p3 p4 p5 p6
 exact ⟨C',F',H',p1.toN _,p2,p3,((Below.refl C.B w).drew).trans p4,p5,hQ F' H' p6⟩
end Go.Proofs.YtjgmdlcjbgiekaaGreatDoor.Pm
namespace Go.Proofs.YtjgmdlcjbgiekaaGreatDoor.Sc
set_option linter.all false
open Pm Ty Go.RowKit
def mx3 (a b c:Int):Int:=if c>(if b>a then b else a) then c else (if b>a then b else a)
theorem zwb (k:IntKind) (a b c:Int):zem zm8 (.int k a) [.int k b,.int k c]=some (.int k (mx3 a b c)):=rfl
def mx6 (a b c d e f:Int):Int:=(fun x=>if f>x then f else x) ((fun x=>if e>x then e else x) ((fun x=>if d>x then d else x) (mx3 a b c)))
theorem zwa (k:IntKind) (a b c d e f:Int):zem zm8 (.int k a) [.int k b,.int k c,.int k d,.int k e,.int k f]=some (.int k (mx6 a b c d e f)):=rfl
attribute [go_sem high] zwb zwa
end Go.Proofs.YtjgmdlcjbgiekaaGreatDoor.Sc
