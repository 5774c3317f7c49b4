/-
  Parts of the proof, put together in one text. No condition.
-/
import Derived.Test.YtjgmdlcjbgiekaaGreatDoorQ37
namespace Go.Proofs.YtjgmdlcjbgiekaaGreatDoor.Sc
set_option linter.all false
open Pm Ty Go.RowKit
def flt (A B:Nat):Fm:=⟨((16 * A:Nat):Int),((16 * B:Nat):Int),List.replicate (16 * A * (16 * B)) 128,List.replicate (8 * A * (8 * B)) 128,List.replicate (8 * A * (8 * B)) 128⟩
theorem zwD (A B:Nat):fmc (flt A B)=[.int .i64 ((16 * A:Nat):Int),.int .i64 ((16 * B:Nat):Int),.slice (bs (List.replicate (16 * A * (16 * B)) 128)) (16 * A * (16 * B)) false,.slice (bs (List.replicate (8 * A * (8 * B)) 128)) (8 * A * (8 * B)) false,.slice (bs (List.replicate (8 * A * (8 * B)) 128)) (8 * A * (8 * B)) false]:=by
 unfold flt fmc;simp only [List.length_replicate]
theorem zwl (k:Nat) (hk:k≤64) (H:za):CallOk Tryz.prog 284 [.int .u64 1,.int .u64 ((64 * k:Nat):Int)] H (.tup [.int .u64 0,.int .u64 ((64 * k:Nat):Int)]) H:=by
 have h:((List.range 65).all fun k=>zpQ (zgZ Tryz.prog 100000 (.call 284 [.int .u64 1,.int .u64 ((64 * k:Nat):Int)] [])) (.tup [.int .u64 0,.int .u64 ((64 * k:Nat):Int)]))=true:=by kernel_rfl
 exact CallOk.evalV 100000 (List.all_eq_true.1 h k (List.mem_range.2 (by omega))) (fun x hx=>by
  simp only [List.mem_cons,List.not_mem_nil,or_false] at hx
  rcases hx with rfl|rfl<;>exact .int _ _)
theorem ztw (k:Nat) (hk:k≤64):IntKind.u64.wrap ((64 * k:Nat):Int)=((64 * k:Nat):Int):=by
 have h:((List.range 65).all fun k=>decide (IntKind.u64.wrap ((64 * k:Nat):Int)=((64 * k:Nat):Int)))=true:=by kernel_rfl
 exact of_decide_eq_true (List.all_eq_true.1 h k (List.mem_range.2 (by omega)))
set_option maxHeartbeats 1600000 in
theorem zgs (n k:Nat) (hn:n=64 * k) (hk:1≤k∧k≤64) (H:za):CallOk Tryz.prog 203 [.slice [.int .u8 128] 1 true,.int .i64 (n:Int)] H (.slice (bs (List.replicate n 128)) n false) H:=by
 have mu:∀ K,CallOk Tryz.prog 284 [.int .u64 1,.int .u64 (n:Int)] K (.tup [.int .u64 0,.int .u64 (n:Int)]) K:=fun K=>by
  rw [hn];exact zwl k hk.2 K
 have hz:(List.replicate n [PV.int .u8 0]).flatten=bs (List.replicate n 0):=zc2 n
 have u1:IntKind.u64.wrap (n:Int)=(n:Int):=by rw [hn];exact ztw k hk.2
 have u2:IntKind.u64.wrap 1=1:=rfl
 have hnb:1≤n∧n≤4096:=by omega
 clear hn
 refine CallOk.body (F0:=[(0,.slice [.int .u8 128] 1 true),(1,.int .i64 (n:Int))]) Tryz.func203 rfl Tryz.ntmps203 Tryz.results203 rfl (by kernel_rfl) rfl ?_
 refine PW.e ?_
 refine PW.e ?_
 refine PW.us ?_
 refine PW.f (fun K k=>by simp (disch:=omega) only [go_sem,↓reduceIte,reduceCtorEq,u1,u2];refine VCx.call (mu _) rfl ?_;simp (disch:=omega) only [go_sem,↓reduceIte,reduceCtorEq,u1,u2];exact k) ?_
 (repeat refine PW.seq ?_)
 refine PW.rgv (P:=Tryz.prog) [0,6] 26 (.bool false) ?_ ?_ ?_
 ·rfl
 ·simp (disch:=omega) only [go_sem,↓reduceIte,reduceCtorEq];(repeat' ((first|refine zj ?_ ?_|refine zn ?_ ?_|refine zN ?_ ?_|refine VOh_cond ?_ ?_|refine zM ?_ ?_|refine And.intro ?_ ?_)<;>intro h<;>(try simp only [nqb] at h)<;>simp (disch:=omega) only [go_sem,↓reduceIte,reduceCtorEq,h]))
  all_goals (simp_all [slot,Nat.beq]<;>first|rfl|omega|(rw [Bool.eq_iff_iff];simp;done)|(rw [Bool.eq_iff_iff];simp;omega))
 refine PW.us ?_
 refine PW.e ?_
 rw [hz]
 have mn:min 1 n=1:=by omega
 refine PW.f (fun K k=>by simp (disch:=omega) only [go_sem,↓reduceIte,reduceCtorEq,ze,List.length_replicate,mn];exact k) ?_
 (repeat refine PW.seq ?_);refine PW.block (PW.loop ?_)
 suffices hloop:∀ k:Nat,1≤k→k≤n→PL Tryz.prog _ _ [(7,.msl H.length 0 0 n 1 true),(8,.int .i64 (k:Int))] (H++[⟨5,0,bs (rpk n k)⟩]) _ by
  refine PL.at [7,8] (hloop 1 (by omega) (by omega)) rfl ?_
  obtain ⟨m,rfl⟩:∃ m,n=m+1:=⟨n - 1,by omega⟩
  simp [zO,rpk,bs,List.replicate_succ]
 intro k hk1 hkn
 induction hm:n - k using Nat.strongRecOn generalizing k with
 | _ d ih=>
  have hl:=zlP hkn
  refine PL.round ?_;refine PW.e ?_
  (repeat refine PW.seq ?_);refine PW.cond (t:=_) rfl (fun h=> ?_) (fun h=> ?_)
  ·have h4:k<n:=by have:=of_decide_eq_true h;omega
   refine PW.skip ?_;(repeat refine PW.seq ?_);refine PW.block ?_
   (repeat refine PW.seq ?_);refine PW.draw mix (by kernel_rfl) fun K hK=> ?_
   simp (disch:=omega) only [go_sem,↓reduceIte,reduceCtorEq,ze,hl]
   refine hK _ _ ?_;clear hK K
   have hm1:min (k - 0) (n - k)=min k (n - k):=by rw [Nat.sub_zero]
   rw [hm1,Nat.sub_zero]
   have e1:(k:Int)+((min k (n - k):Nat):Int)=((k+min k (n - k):Nat):Int):=by omega
   rw [e1]
   have e2:List.take k (bs (rpk n k))=bs (List.replicate k 128):=by
    rw [zbz];congr 1;unfold rpk;rw [List.take_append_of_le_length (by simp),List.take_of_length_le (by simp)]
   have e3:List.take (min k (n - k)) (bs (List.replicate k (128:UInt8)))=bs (List.replicate (min k (n - k)) 128):=by
    rw [zbz,List.take_replicate];congr 2;omega
   have e4:List.drop (k+(bs (List.replicate (min k (n - k)) (128:UInt8))).length) (bs (rpk n k))=bs (List.replicate (n - (k+min k (n - k))) 0):=by
    rw [ze,List.length_replicate,zco]
    congr 1
    unfold rpk
    rw [List.drop_append,List.length_replicate,List.drop_of_length_le (by simp),List.nil_append,List.drop_replicate]
    congr 1;omega
   rw [e2,e3,e4]
   have e5:bs (List.replicate k 128)++(bs (List.replicate (min k (n - k)) 128)++bs (List.replicate (n - (k+min k (n - k))) 0))=bs (rpk n (k+min k (n - k))):=by
    rw [←zat,←zat];unfold rpk;rw [←List.append_assoc,List.replicate_append_replicate]
   rw [e5]
   exact PL.at [7,8] (ih (n - (k+min k (n - k))) (by omega) (k+min k (n - k)) (by omega) (by omega) rfl) rfl rfl
  ·have h4:k=n:=by have:=of_decide_eq_false h;omega
   subst h4
   refine PW.exit ?_
   rw [zlQ]
   refine PW.e ?_
   refine PW.ret ⟨_,rfl,?_⟩
   exact Fin.base (Fz.mslC (e:=5) (xs:=bs (List.replicate k 128)) (by omega) (hp0 _ _ _) (by simp [ze]) (FzC.refl (zq _ _)))
theorem nAB {A B:Nat} (hA:1≤A∧A≤4) (hB:1≤B∧B≤4):1≤A * B∧A * B≤16:=⟨Nat.mul_pos (by omega) (by omega),Nat.mul_le_mul hA.2 hB.2⟩
set_option maxRecDepth 10000 in
theorem zp5 (A B:Nat) (hA:1≤A∧A≤4) (hB:1≤B∧B≤4) (H:za):CallOk Tryz.prog 129 [.int .i64 ((16 * A:Nat):Int),.int .i64 ((16 * B:Nat):Int),.int .u8 128,.int .u8 128,.int .u8 128] H (.tup [.agg (fmc (flt A B)),.int .i64 0]) H:=by
 have fz:=fun K=>ziD ((16 * A:Nat):Int) ((16 * B:Nat):Int) K
 have hfs:fsz ((16 * A:Nat):Int) ((16 * B:Nat):Int)=true:=by
  simp only [fsz,Bool.and_eq_true,decide_eq_true_eq];omega
 rw [hfs] at fz
 have nb:=nAB hA hB
 have p1:16 * A * (16 * B)=64 * (4 * (A * B)):=by rw [Nat.mul_mul_mul_comm];omega
 have p2:8 * A * (8 * B)=64 * (A * B):=by rw [Nat.mul_mul_mul_comm]
 have r1:=fun K=>zgs (16 * A * (16 * B)) _ p1 (by omega) K
 have r2:=fun K=>zgs (8 * A * (8 * B)) _ p2 (by omega) K
 rw [zwD]
 have b1:16 * A * (16 * B)≤4096:=by omega
 have b2:8 * A * (8 * B)≤4096:=by omega
 have m1:((16 * A:Nat):Int) * ((16 * B:Nat):Int)=((16 * A * (16 * B):Nat):Int):=(Int.natCast_mul _ _).symm
 have m2:((8 * A:Nat):Int) * ((8 * B:Nat):Int)=((8 * A * (8 * B):Nat):Int):=(Int.natCast_mul _ _).symm
 have d1:((16 * A:Nat):Int).tdiv 2=((8 * A:Nat):Int):=by rw [zx _ _ (by omega)];omega
 have d2:((16 * B:Nat):Int).tdiv 2=((8 * B:Nat):Int):=by rw [zx _ _ (by omega)];omega
 generalize 16 * A * (16 * B)=n1 at r1 m1 b1 p1 ⊢
 generalize 8 * A * (8 * B)=n2 at r2 m2 b2 p2 ⊢
 generalize List.replicate n1 (128:UInt8)=P at r1 ⊢
 generalize List.replicate n2 (128:UInt8)=Q at r2 ⊢
 refine CallOk.body (F0:=[(0,.int .i64 ((16 * A:Nat):Int)),(1,.int .i64 ((16 * B:Nat):Int)),(2,.int .u8 128),(3,.int .u8 128),(4,.int .u8 128)]) Tryz.func129 rfl Tryz.ntmps129 Tryz.results129 rfl (by kernel_rfl) rfl ?_
 refine PW.e ?_
 refine PW.f (fun K k=>by simp (disch:=omega) only [go_sem,↓reduceIte,reduceCtorEq];refine VCx.call (fz _) rfl ?_;simp (disch:=omega) only [go_sem,↓reduceIte,reduceCtorEq];exact k) ?_
 refine PW.us ?_
 refine PW.f (fun K k=>by simp (disch:=omega) only [go_sem,↓reduceIte,reduceCtorEq,d1,d2,m1,m2];exact k) ?_
 refine PW.f (fun K k=>by simp (disch:=omega) only [go_sem,↓reduceIte,reduceCtorEq];refine VCx.call (r1 _) rfl ?_;simp (disch:=omega) only [go_sem,↓reduceIte,reduceCtorEq];refine VCx.call (r2 _) rfl ?_;simp (disch:=omega) only [go_sem,↓reduceIte,reduceCtorEq];refine VCx.call (r2 _) rfl ?_;simp (disch:=omega) only [go_sem,↓reduceIte,reduceCtorEq];exact k) ?_
 refine PW.ret ⟨.tup [.agg [.int .i64 ((16 * A:Nat):Int),.int .i64 ((16 * B:Nat):Int),.slice (bs P) n1 false,.slice (bs Q) n2 false,.slice (bs Q) n2 false],.int .i64 0],by simp (disch:=omega) only [go_sem,↓reduceIte,reduceCtorEq,zd,zg,List.mapM_cons,List.mapM_nil,Option.pure_def,Option.bind_eq_bind,Option.bind_some,Array.toList],?_⟩
 exact Fin.base (.id (zQ _ _ _ _ _ _ _ _ _ _))
theorem zoS {s:Sq} {p:Pi} (hv:zL s p=true):∃ A B:Nat,(1≤A∧A≤4)∧(1≤B∧B≤4)∧s.w=((16 * A:Nat):Int)∧hgt s p=((16 * B:Nat):Int)∧za2 s p=(B:Int)∧(p.st=3→s.h=((16 * B:Nat):Int))∧(p.st≠3→s.h=((32 * B:Nat):Int)∧s.il=true)∧(1≤p.st∧p.st≤3)∧(1≤p.ty∧p.ty≤3):=by
 have hr:=zba hv
 have hv':=hv
 unfold zL at hv
 simp only [Bool.and_eq_true,Bool.or_eq_true,beq_iff_eq] at hv
 obtain ⟨⟨hq,hc⟩,hi⟩:=hv
 unfold zbM vsz mbs at hq
 simp only [Bool.and_eq_true,Bool.or_eq_true,beq_iff_eq,decide_eq_true_eq,Bool.not_eq_true'] at hq
 unfold zsw at hc
 simp only [Bool.and_eq_true,decide_eq_true_eq] at hc
 have h1:s.w%16=0:=by have:=hq.1.1.1;rw [←zV _ _ (by omega)];simp_all
 have h2:s.h%16=0:=by have:=hq.1.1.2;rw [←zV _ _ (by omega)];simp_all
 have h3:s.il=true→s.h%32=0:=fun e=>by
  rcases hq.1.2 with h|h
  ·rw [e] at h;cases h
  ·rw [←zV _ _ (by omega)];exact h
 have e1:s.h.tdiv 16=s.h / 16:=zx _ _ (by omega)
 have e2:s.h.tdiv 32=s.h / 32:=zx _ _ (by omega)
 have e3:s.h.tdiv 2=s.h / 2:=zx _ _ (by omega)
 have hst:p.st≠3→s.il=true:=fun h=>by
  rcases hi with h'|h'
  ·exact h'
  ·exact absurd h'.1.1 h
 by_cases h:p.st=3
 ·refine ⟨(s.w / 16).toNat,(s.h / 16).toNat,by omega,by omega,by omega,?_,?_,fun _=>by omega,fun h'=>absurd h h',by omega,by omega⟩
  ·unfold hgt;rw [if_pos h];omega
  ·unfold za2;rw [if_pos hv',if_pos h,e1];omega
 ·have h32:=h3 (hst h)
  refine ⟨(s.w / 16).toNat,(s.h / 32).toNat,by omega,by omega,by omega,?_,?_,fun h'=>absurd h' h,fun _=>⟨by omega,hst h⟩,by omega,by omega⟩
  ·unfold hgt;rw [if_neg h,e3];omega
  ·unfold za2;rw [if_pos hv',if_neg h,e2];omega
def mOr (f:Fm) (w h:Int):Bool:=decide (f.w=0)||(fmd f&&(decide (f.w=w)&&decide (f.h=h)))
theorem zk1 (f:Fm) (w h:Int) (H:za):CallOk Tryz.prog 128 [.agg (fmc f),.int .i64 w,.int .i64 h] H (.bool (mOr f w h)) H:=by
 have fo:=fun K=>zaR f K
 unfold mOr
 generalize fmd f=b at fo ⊢
 obtain ⟨fw,fh,y,u,v⟩:=f
 simp only [fmc] at fo ⊢
 refine CallOk.body (F0:=[(0,.agg [.int .i64 fw,.int .i64 fh,.slice (bs y) y.length false,.slice (bs u) u.length false,.slice (bs v) v.length false]),(1,.int .i64 w),(2,.int .i64 h)]) Tryz.func128 rfl Tryz.ntmps128 Tryz.results128 rfl (by kernel_rfl) rfl ?_
 refine PW.e ?_
 (repeat refine PW.seq ?_);refine PW.rg rfl fun K hK=> ?_;simp (disch:=omega) only [go_sem,↓reduceIte,reduceCtorEq];(repeat' (first|((first|refine zj ?_ ?_|refine And.intro ?_ ?_)<;>intro h<;>(try simp only [nqb] at h)<;>simp (disch:=omega) only [go_sem,↓reduceIte,reduceCtorEq,h])|((first|refine VCx.call (fo _) rfl ?_);simp (disch:=omega) only [go_sem,↓reduceIte,reduceCtorEq])))
 all_goals (refine hK _ _ ?_;clear hK;(refine PW.ret ⟨_,rfl,?_⟩;first|refine .inl ⟨?_,rfl⟩|refine Fin.base (.id' ?_ (.bool _))|refine Fin.base (.id' ?_ (.int _ _)));(simp_all [slot,Nat.beq]<;>first|rfl|omega|(rw [Bool.eq_iff_iff];simp;done)|(rw [Bool.eq_iff_iff];simp;omega)))
def ziM (s:Sq) (p:Pi) (pa fu fi:Fm) (b:Bool):Int:=
 if (zfb s p b&&(mOr pa s.w s.h&&(mOr fu s.w s.h&&mOr fi s.w (s.h.tdiv 2))))=true then (if ((!decide (p.ty=1)&&decide (pa.w=0))||((decide (p.ty=3)&&decide (fu.w=0))||(decide (p.ty=2)&&(b&&decide (fi.w=0)))))=true then 6 else 0) else 1
set_option maxHeartbeats 1600000 in
theorem zuW (s:Sq) (p:Pi) (pa fu fi:Fm) (b:Bool) (hs:SqOk s) (H:za):CallOk Tryz.prog 70 [.agg (sqc s),.agg (pic p),.agg (fmc pa++(fmc fu++fmc fi)),.bool b] H (.int .i64 (ziM s p pa fu fi b)) H:=by
 have fo:=fun K=>zmr s p b K hs
 have h1:=za8 s
 have h2:=zbs s hs
 have h3:=zdf s hs
 have h4:=zoi s
 have h5:(sqc s)[1]? =some (.int .i64 s.h):=rfl
 have p6:(pic p).length=6:=rfl
 have p7:(pic p).all PV.cell=true:=rfl
 have t6:List.take 6 (pic p)=pic p:=rfl
 have ty:(pic p)[0]? =some (.int .i64 p.ty):=rfl
 have rl:(fmc pa++(fmc fu++fmc fi)).length=15:=rfl
 have rc:(fmc pa++(fmc fu++fmc fi)).all PV.cell=true:=rfl
 have r0:List.take 5 (fmc pa++(fmc fu++fmc fi))=fmc pa:=rfl
 have r1:List.take 5 (List.drop 5 (fmc pa++(fmc fu++fmc fi)))=fmc fu:=rfl
 have r2:List.take 5 (List.drop 10 (fmc pa++(fmc fu++fmc fi)))=fmc fi:=rfl
 have w0:(fmc pa++(fmc fu++fmc fi))[0]? =some (.int .i64 pa.w):=rfl
 have w1:(fmc pa++(fmc fu++fmc fi))[5]? =some (.int .i64 fu.w):=rfl
 have w2:(fmc pa++(fmc fu++fmc fi))[10]? =some (.int .i64 fi.w):=rfl
 have m1:=fun K=>zk1 pa s.w s.h K
 have m2:=fun K=>zk1 fu s.w s.h K
 have m3:=fun K=>zk1 fi s.w (s.h.tdiv 2) K
 unfold ziM
 generalize hbf:zfb s p b=bf at fo ⊢
 generalize mOr pa s.w s.h=b1 at m1 ⊢
 generalize mOr fu s.w s.h=b2 at m2 ⊢
 generalize mOr fi s.w (s.h.tdiv 2)=b3 at m3 ⊢
 refine CallOk.body (F0:=[(0,.agg (sqc s)),(1,.agg (pic p)),(2,.agg (fmc pa++(fmc fu++fmc fi))),(3,.bool b)]) Tryz.func70 rfl Tryz.ntmps70 Tryz.results70 rfl (by kernel_rfl) rfl ?_
 refine PW.f (fun K k=>by simp (disch:=omega) only [go_sem,↓reduceIte,reduceCtorEq,h1,p7,rc];exact k) ?_
 refine PW.f (fun K k=>by simp (disch:=omega) only [go_sem,↓reduceIte,reduceCtorEq,h2,h3,p6,t6];refine VCx.call (fo _) rfl ?_;simp (disch:=omega) only [go_sem,↓reduceIte,reduceCtorEq,h2,h3,p6,t6];exact k) ?_
 (repeat refine PW.seq ?_);refine PW.cond (t:=_) rfl (fun h=> ?_) (fun h=> ?_)
 ·have hb:bf=false:=by simpa using h
  subst hb
  refine PW.e ?_
  (refine PW.ret ⟨_,rfl,?_⟩;first|refine .inl ⟨?_,rfl⟩|refine Fin.base (.id' ?_ (.bool _))|refine Fin.base (.id' ?_ (.int _ _)))
  rfl
 have hb:bf=true:=by simpa using h
 subst hb
 have wd:IntKind.i64.wrap (s.h.tdiv 2)=s.h.tdiv 2:=by
  unfold zfb at hbf
  rw [Bool.and_eq_true] at hbf
  have:=zba hbf.1
  exact zkj _ _ (by omega)
 refine PW.skip ?_
 (repeat refine PW.seq ?_)
 refine PW.rgv (P:=Tryz.prog) [3,5,6] 42 (.bool (!(b1&&(b2&&b3)))) ?_ ?_ ?_
 ·rfl
 ·simp (disch:=omega) only [go_sem,↓reduceIte,reduceCtorEq,h2,h4,h5,rl,r0,r1,r2];(repeat' (first|((first|refine zj ?_ ?_|refine And.intro ?_ ?_)<;>intro h<;>(try simp only [nqb] at h)<;>simp (disch:=omega) only [go_sem,↓reduceIte,reduceCtorEq,h2,h4,h5,rl,r0,r1,r2,wd,h])|((first|refine VCx.call (m1 _) rfl ?_|refine VCx.call (m2 _) rfl ?_|refine VCx.call (m3 _) rfl ?_);simp (disch:=omega) only [go_sem,↓reduceIte,reduceCtorEq,h2,h4,h5,rl,r0,r1,r2,wd])))
  all_goals (clear hbf wd m1 m2 m3 fo h1 h2 h3 h4 h5 rl rc r0 r1 r2 w0 w1 w2 p6 p7 t6 ty;(simp_all [slot,Nat.beq]<;>first|rfl|omega|(rw [Bool.eq_iff_iff];simp;done)|(rw [Bool.eq_iff_iff];simp;omega)))
 (repeat refine PW.seq ?_);refine PW.cond (t:=_) rfl (fun h=> ?_) (fun h=> ?_)
 ·have hb:(b1&&(b2&&b3))=false:=by cases b1<;>cases b2<;>cases b3<;>simp_all
  rw [hb]
  refine PW.e ?_
  (refine PW.ret ⟨_,rfl,?_⟩;first|refine .inl ⟨?_,rfl⟩|refine Fin.base (.id' ?_ (.bool _))|refine Fin.base (.id' ?_ (.int _ _)))
  rfl
 have hb:(b1&&(b2&&b3))=true:=by cases b1<;>cases b2<;>cases b3<;>simp_all
 rw [hb]
 clear hbf m1 m2 m3 fo hb h wd
 refine PW.skip ?_
 (repeat' (first|refine PW.seq ?_|refine PW.skip ?_|refine PW.block ?_|((first|refine PW.rg rfl fun K hK=> ?_|refine PW.draw mix (by kernel_rfl) fun K hK=> ?_);simp (disch:=omega) only [go_sem,↓reduceIte,reduceCtorEq,p6,ty,rl,w0,w1,w2])|((first|refine zj ?_ ?_|refine zn ?_ ?_|refine And.intro ?_ ?_)<;>intro h<;>(try simp only [nqb] at h)<;>simp (disch:=omega) only [go_sem,↓reduceIte,reduceCtorEq,p6,ty,rl,w0,w1,w2,h])|(refine hK _ _ ?_;clear hK K)|(refine PW.cond (t:=_) rfl (fun h=> ?_) (fun h=> ?_)<;>(try (cases h;done))<;>(try simp only [nqb] at h))))
 all_goals ((refine PW.ret ⟨_,rfl,?_⟩;first|refine .inl ⟨?_,rfl⟩|refine Fin.base (.id' ?_ (.bool _))|refine Fin.base (.id' ?_ (.int _ _)));clear h1 h2 h3 h4 h5 rl rc r0 r1 r2 w0 w1 w2 p6 p7 t6 ty;(simp_all [slot,Nat.beq]<;>first|rfl|omega|(rw [Bool.eq_iff_iff];simp;done)|(rw [Bool.eq_iff_iff];simp;omega)))
def zj7 (s:Sq) (p:Pi) (pa:Fm):Fm:=if pa.w=0 then flt (s.w / 16).toNat (hgt s p / 16).toNat else if p.st=3 then pa else fieldOf pa (p.st - 1)
theorem zla {s:Sq} {p:Pi} {f:Fm} (hv:zL s p=true) (hf:fmd f=true) (hw:f.w=s.w) (hh:f.h=s.h):fvd f=true∧(p.st≠3→f.h%32=0):=by
 obtain ⟨A,B,a1,b1,ew,eh,er,e3,e4,st,_⟩:=zoS hv
 by_cases h:p.st=3
 ·have:=e3 h
  refine ⟨?_,fun h'=>absurd h h'⟩
  unfold fvd
  simp only [hf,Bool.true_and,Bool.and_eq_true,decide_eq_true_eq]
  omega
 ·have:=(e4 h).1
  refine ⟨?_,fun _=>by omega⟩
  unfold fvd
  simp only [hf,Bool.true_and,Bool.and_eq_true,decide_eq_true_eq]
  omega
theorem zp7 (f:Fm) (s:Int) (hf:fvd f=true) (h32:f.h%32=0) (hs:s=0∨s=1) (L:za):CallOk Tryz.prog 130 [.agg (fmc f),.int .i64 s] L (.tup [.agg (fmc (fieldOf f s)),.int .i64 0]) L:=by
 obtain ⟨w,ht,y,u,v⟩:=f
 obtain ⟨V,K,rfl,rfl,hok⟩:=zdJ hf h32
 obtain ⟨P,hP,rfl⟩:∃ P:Nat,P≤1∧s=(P:Int):=by
  rcases hs with e|e
  ·exact ⟨0,by omega,by omega⟩
  ·exact ⟨1,by omega,by omega⟩
 have e1:=zaN V K P y u v
 have e2:=zgY V K P y u v L hok hP
 unfold fr4 at e1 e2
 rw [e1];exact e2
set_option maxHeartbeats 1600000 in
set_option maxRecDepth 10000 in
theorem zuY (s:Sq) (p:Pi) (pa:Fm) (hs:SqOk s) (hv:zL s p=true) (hm:mOr pa s.w s.h=true) (H:za):CallOk Tryz.prog 71 [.agg (sqc s),.agg (pic p),.agg (fmc pa)] H (.tup [.agg (fmc (zj7 s p pa)),.int .i64 0]) H:=by
 have h1:=za8 s
 have h2:=zbs s hs
 have h3:=zdf s hs
 have h4:=zoi s
 have p6:(pic p).length=6:=rfl
 have p7:(pic p).all PV.cell=true:=rfl
 have t6:List.take 6 (pic p)=pic p:=rfl
 have st:(pic p)[1]? =some (.int .i64 p.st):=rfl
 have F5:∀ g:Fm,(fmc g).all PV.cell=true:=fun _=>rfl
 have F7:∀ g:Fm,(fmc g).length=5:=fun _=>rfl
 have F8:∀ g:Fm,List.take 5 (fmc g)=fmc g:=fun _=>rfl
 have z9:List.drop 5 [PV.int .i64 0,PV.int .i64 0,PV.slice [] 0 true,PV.slice [] 0 true,PV.slice [] 0 true]=[]:=rfl
 have w0:(fmc pa)[0]? =some (.int .i64 pa.w):=rfl
 obtain ⟨A,B,a1,b1,ew,eh,er,e3,e4,e5,_⟩:=zoS hv
 have ho:=fun K=>zk8 s p K hs (by have:=zba hv;omega)
 refine CallOk.body (F0:=[(0,.agg (sqc s)),(1,.agg (pic p)),(2,.agg (fmc pa))]) Tryz.func71 rfl Tryz.ntmps71 Tryz.results71 rfl (by kernel_rfl) rfl ?_
 refine PW.f (fun K k=>by simp (disch:=omega) only [go_sem,↓reduceIte,reduceCtorEq,h1,p7,F5];exact k) ?_
 (repeat refine PW.seq ?_);refine PW.block ?_
 refine PW.f (fun K k=>by simp (disch:=omega) only [go_sem,↓reduceIte,reduceCtorEq,w0,F7];exact k) ?_
 (repeat refine PW.seq ?_);refine PW.cond (t:=_) rfl (fun h=> ?_) (fun h=> ?_)
 ·have hz:pa.w=0:=by simpa using h
  have hc:zj7 s p pa=flt A B:=by
   unfold zj7
   rw [if_pos hz,ew,eh]
   congr 1<;>omega
  rw [hc]
  rw [eh] at ho
  rw [ew] at h4
  have fl:=fun K=>zp5 A B a1 b1 K
  generalize flt A B=g at fl ⊢
  (repeat refine PW.seq ?_);refine PW.drawi [H.length+3] [(6,[0])] [] [16,17] mix (by kernel_rfl) (by simp<;>omega) fun K hK=> ?_
  simp (disch:=omega) only [go_sem,↓reduceIte,reduceCtorEq,zaF,h2,h3,h4,p6,t6]
  refine VCj.read (fun _ _=>ho _) rfl ?_
  simp (disch:=omega) only [go_sem,↓reduceIte,reduceCtorEq]
  refine VCj.read (fun _ _=>fl _) rfl ?_
  simp (disch:=omega) only [go_sem,↓reduceIte,reduceCtorEq,F5,F7,z9]
  refine hK _ _ ?_;clear hK K
  refine PW.ret ⟨.tup [.agg (fmc g),.int .i64 0],by simp (disch:=omega) only [go_sem,↓reduceIte,reduceCtorEq,zd,zg,List.mapM_cons,List.mapM_nil,Option.pure_def,Option.bind_eq_bind,Option.bind_some,Array.toList,F7,F8],?_⟩
  exact Fin.base (.id (zQ _ _ _ _ _ _ _ _ _ _))
 have hz:pa.w≠0:=by simpa using h
 have hm2:fmd pa=true∧pa.w=s.w∧pa.h=s.h:=by
  unfold mOr at hm
  simpa [hz] using hm
 obtain ⟨hfv,h32⟩:=zla hv hm2.1 hm2.2.1 hm2.2.2
 have hc:zj7 s p pa=if p.st=3 then pa else fieldOf pa (p.st - 1):=if_neg hz
 rw [hc]
 refine PW.f (fun K k=>by simp (disch:=omega) only [go_sem,↓reduceIte,reduceCtorEq,st,p6];exact k) ?_
 (repeat refine PW.seq ?_);refine PW.cond (t:=_) rfl (fun h=> ?_) (fun h=> ?_)
 ·have h1':p.st=1:=by simpa using h
  rw [if_neg (by omega),h1']
  have fl:=fun K=>zp7 pa 0 hfv (h32 (by omega)) (.inl rfl) K
  change ∀ K,CallOk _ _ _ K (.tup [.agg (fmc (fieldOf pa (1 - 1))),_]) K at fl
  generalize fieldOf pa (1 - 1)=g at fl ⊢
  refine PW.f (fun K k=>by simp (disch:=omega) only [go_sem,↓reduceIte,reduceCtorEq,F5,F7,F8,z9];refine VCx.call (fl _) rfl ?_;simp (disch:=omega) only [go_sem,↓reduceIte,reduceCtorEq,F5,F7,F8,z9];exact k) ?_
  refine PW.ret ⟨.tup [.agg (fmc g),.int .i64 0],by simp (disch:=omega) only [go_sem,↓reduceIte,reduceCtorEq,zd,zg,List.mapM_cons,List.mapM_nil,Option.pure_def,Option.bind_eq_bind,Option.bind_some,Array.toList,F7,F8],?_⟩
  exact Fin.base (.id (zQ _ _ _ _ _ _ _ _ _ _))
 have h1':p.st≠1:=by simpa using h
 refine PW.f (fun K k=>by simp (disch:=omega) only [go_sem,↓reduceIte,reduceCtorEq,st,p6];exact k) ?_
 (repeat refine PW.seq ?_);refine PW.cond (t:=_) rfl (fun h=> ?_) (fun h=> ?_)
 ·have h2':p.st=2:=by simpa using h
  rw [if_neg (by omega),h2']
  have fl:=fun K=>zp7 pa 1 hfv (h32 (by omega)) (.inr rfl) K
  change ∀ K,CallOk _ _ _ K (.tup [.agg (fmc (fieldOf pa (2 - 1))),_]) K at fl
  generalize fieldOf pa (2 - 1)=g at fl ⊢
  refine PW.f (fun K k=>by simp (disch:=omega) only [go_sem,↓reduceIte,reduceCtorEq,F5,F7,F8,z9];refine VCx.call (fl _) rfl ?_;simp (disch:=omega) only [go_sem,↓reduceIte,reduceCtorEq,F5,F7,F8,z9];exact k) ?_
  refine PW.ret ⟨.tup [.agg (fmc g),.int .i64 0],by simp (disch:=omega) only [go_sem,↓reduceIte,reduceCtorEq,zd,zg,List.mapM_cons,List.mapM_nil,Option.pure_def,Option.bind_eq_bind,Option.bind_some,Array.toList,F7,F8],?_⟩
  exact Fin.base (.id (zQ _ _ _ _ _ _ _ _ _ _))
 have h2':p.st≠2:=by simpa using h
 rw [if_pos (by omega)]
 refine PW.skip ?_
 obtain ⟨A',B',c1,c2,c3,c4,gw,gh,ly,lu,lv⟩:=ziC hfv
 have nb:=nAB (A:=A') (B:=B') ⟨c1,c2⟩ ⟨c3,c4⟩
 have q1:16 * A' * (16 * B')=256 * (A' * B'):=by rw [Nat.mul_mul_mul_comm]
 have q2:8 * A' * (8 * B')=64 * (A' * B'):=by rw [Nat.mul_mul_mul_comm]
 obtain ⟨w,ht,y,u,v⟩:=pa
 simp only at ly lu lv
 have c1:=fun K=>zg6 y false K (by omega)
 have c2:=fun K=>zg6 u false K (by omega)
 have c3:=fun K=>zg6 v false K (by omega)
 clear hc hm hfv h32 q1 q2 ly lu lv
 unfold fmc
 (repeat refine PW.seq ?_);refine PW.draw mix (by kernel_rfl) fun K hK=> ?_;simp (disch:=omega) only [go_sem,↓reduceIte,reduceCtorEq]
 (repeat' (first|((first|refine zn ?_ ?_|refine And.intro ?_ ?_)<;>intro h<;>(try simp only [nqb] at h)<;>simp (disch:=omega) only [go_sem,↓reduceIte,reduceCtorEq,h])|((first|refine VCy.call (c1 _) rfl ?_|refine VCy.call (c2 _) rfl ?_|refine VCy.call (c3 _) rfl ?_);simp (disch:=omega) only [go_sem,↓reduceIte,reduceCtorEq])))
 refine hK _ _ ?_;clear hK K
 refine PW.ret ⟨.tup [.agg [.int .i64 w,.int .i64 ht,.slice (bs y) y.length false,.slice (bs u) u.length false,.slice (bs v) v.length false],.int .i64 0],by simp (disch:=omega) only [go_sem,↓reduceIte,reduceCtorEq,zd,zg,List.mapM_cons,List.mapM_nil,Option.pure_def,Option.bind_eq_bind,Option.bind_some,Array.toList],?_⟩
 exact Fin.base (.id (zQ _ _ _ _ _ _ _ _ _ _))
structure Gok (A B:Nat) (f:Fm):Prop where
 w:f.w=((16 * A:Nat):Int)
 h:f.h=((16 * B:Nat):Int)
 ra:1≤A∧A≤4
 rb:1≤B∧B≤4
 ly:f.y.length=16 * A * (16 * B)
 lu:f.u.length=8 * A * (8 * B)
 lv:f.v.length=8 * A * (8 * B)
theorem Gok.of {f:Fm} (h:fvd f=true):∃ A B:Nat,Gok A B f:=by
 obtain ⟨A,B,a1,a2,b1,b2,ew,eh,ly,lu,lv⟩:=ziC h
 exact ⟨A,B,ew,eh,⟨a1,a2⟩,⟨b1,b2⟩,ly,lu,lv⟩
theorem Gok.fvd {A B:Nat} {f:Fm} (h:Gok A B f):Sc.fvd f=true:=by
 obtain ⟨w,ht,y,u,v⟩:=f
 obtain ⟨hw,hh,ra,rb,ly,lu,lv⟩:=h
 simp only at hw hh ly lu lv
 subst hw hh
 have e1:((16 * A:Nat):Int) / 2=((8 * A:Nat):Int):=by omega
 have e2:((16 * B:Nat):Int) / 2=((8 * B:Nat):Int):=by omega
 have a1:fsz ((16 * A:Nat):Int) ((16 * B:Nat):Int)=true:=by
  simp only [fsz,Bool.and_eq_true,decide_eq_true_eq];omega
 have a2:((16 * A * (16 * B):Nat):Int)=((16 * A:Nat):Int) * ((16 * B:Nat):Int):=Int.natCast_mul _ _
 have a3:((8 * A * (8 * B):Nat):Int)=((8 * A:Nat):Int) * ((8 * B:Nat):Int):=Int.natCast_mul _ _
 unfold Sc.fvd Sc.fmd
 simp only [a1,e1,e2,ly,lu,lv,a2,a3,decide_true,Bool.and_self,Bool.true_and,Bool.and_eq_true,decide_eq_true_eq]
 omega
theorem Gok.has {A B:Nat} {f:Fm} (h:Gok A B f) {X Y:Nat} (hX:X<A) (hY:Y<B):zdc f (X:Int) (Y:Int)=true:=by
 unfold zdc
 rw [h.fvd,Bool.true_and,h.w,h.h]
 simp only [Bool.and_eq_true,decide_eq_true_eq]
 omega
def smF (A X Y:Nat) (f m:Fm):Fm:=⟨f.w,f.h,pst f.y (16 * Y * (16 * A)+16 * X) (16 * A) 16 m.y 16,pst f.u (8 * Y * (8 * A)+8 * X) (8 * A) 8 m.u 8,pst f.v (8 * Y * (8 * A)+8 * X) (8 * A) 8 m.v 8⟩
theorem zlL {A B:Nat} {f m:Fm} (hf:Gok A B f) (hm:F16 m) {X Y:Nat} (hX:X<A) (hY:Y<B):(smF A X Y f m).y.length=f.y.length∧(smF A X Y f m).u.length=f.u.length∧(smF A X Y f m).v.length=f.v.length:=
 ⟨zax (m:=16) (by rw [hm.ly]) 16 (Nat.le_refl _) (rows_in hf.ly (by omega) (by omega)),zax (m:=8) (by rw [hm.lu]) 8 (Nat.le_refl _) (rows_in hf.lu (by omega) (by omega)),zax (m:=8) (by rw [hm.lv]) 8 (Nat.le_refl _) (rows_in hf.lv (by omega) (by omega))⟩
theorem zon {A B:Nat} {f m:Fm} (hf:Gok A B f) (hm:F16 m) {X Y:Nat} (hX:X<A) (hY:Y<B):Gok A B (smF A X Y f m):=by
 obtain ⟨l1,l2,l3⟩:=zlL hf hm hX hY
 exact ⟨hf.w,hf.h,hf.ra,hf.rb,l1.trans hf.ly,l2.trans hf.lu,l3.trans hf.lv⟩
set_option maxHeartbeats 1600000 in
theorem ze6 (p z:List UInt8) (r v a s w n:Nat) (g f:Bool) (H:za) (hr:H[r]? =some ⟨5,v,bs p⟩) (hw:w≤64) (hn:n≤64) (hp:p.length≤8192) (hz:z.length=n * w) (hfit:∀ k,k<n→a+k * s+w≤p.length) (hs:s≤200∧a≤8192):
  CallOk Tryz.prog 78 [.msl r v 0 p.length 1 g,.agg [.int .i64 (a:Int),.int .i64 (s:Int),.int .i64 (w:Int),.int .i64 (n:Int)],.slice (bs z) z.length f] H (.tup []) (H.set r ⟨5,v,bs (pst p a s w z n)⟩):=by
 have hrl:=(List.getElem?_eq_some_iff.1 hr).1
 have hne:H.length≠r:=by omega
 have hne':r≠H.length:=by omega
 have o1:=fun B K=>zpl hrl B K
 have o2:=fun B X K=>zpj H r B X K
 have o3:=fun B C K=>zpk hrl B C K
 have o4:=fun B=>zcl H r B
 have hbig:n * w≤4096:=Nat.mul_le_mul hn hw
 refine CallOk.body (F0:=[(0,.msl r v 0 p.length 1 g),(1,.agg [.int .i64 (a:Int),.int .i64 (s:Int),.int .i64 (w:Int),.int .i64 (n:Int)]),(2,.slice (bs z) z.length f)]) Tryz.func78 rfl Tryz.ntmps78 Tryz.results78 rfl (by kernel_rfl) rfl ?_
 refine PW.eq rfl (zgL hr).symm ?_
 refine PW.f (fun K k=>by simp (disch:=omega) only [go_sem,↓reduceIte,reduceCtorEq,o4];exact k) ?_
 refine PW.f (fun K k=>by simp (disch:=omega) only [go_sem,↓reduceIte,reduceCtorEq,o1,o2,o3];exact k) ?_
 (repeat refine PW.seq ?_);refine PW.block (PW.loop ?_)
 suffices hloop:∀ k:Nat,k≤n→PL Tryz.prog _ _ [(0,.msl r v 0 p.length 1 g),(2,.slice (bs z) z.length f),(4,.ptr H.length 0 0),(8,.int .i64 (n:Int)),(9,.int .i64 (k:Int))] (one H r ⟨5,v,bs (pst p a s w z k)⟩++[⟨164,0,[.int .i64 (a:Int),.int .i64 (s:Int),.int .i64 (w:Int),.int .i64 (n:Int)]⟩]) _ by
  exact PL.at [0,2,4,8,9] (hloop 0 (Nat.zero_le _)) rfl rfl
 refine cnt n (fun k hk ih=> ?_) ?_
 ·have hpl:=zax (p:=p) (a:=a) (s:=s) hz k (by omega) fun j hj=>hfit j (by omega)
  have h6:=hfit k hk
  have ct:=zhk hk
  have eR:(k:Int) * (w:Int)=((k * w:Nat):Int):=by simp
  have b1:(k+1) * w=k * w+w:=by rw [Nat.add_mul];omega
  have eR1:((k:Int)+1) * (w:Int)=((k * w+w:Nat):Int):=by rw [←b1];simp
  have eS:(k:Int) * (s:Int)=((k * s:Nat):Int):=by simp
  have eA:(a:Int)+((k * s:Nat):Int)=((a+k * s:Nat):Int):=by simp
  have b2:(k+1) * w≤n * w:=Nat.mul_le_mul_right _ (by omega)
  have e3:k * w+w - k * w=w:=by omega
  have rl:=zbU hz hk
  have hmin:min (p.length - (a+k * s)) w=w:=by omega
  have htk:List.take w (List.take w (List.drop (k * w) z))=List.take w (List.drop (k * w) z):=List.take_of_length_le (by omega)
  rw [pst] at ih
  refine PL.round ?_;refine PW.f (fun K k=>by simp (disch:=omega) only [go_sem,↓reduceIte,reduceCtorEq,ct];exact k) ?_;refine PW.t ?_
  refine PW.skip ?_;(repeat refine PW.seq ?_);refine PW.block ?_
  refine PW.e ?_
  rw [b1] at b2
  (repeat refine PW.seq ?_);refine PW.drawt [] [] mix (by kernel_rfl) fun K hK=> ?_
  simp (disch:=omega) only [go_sem,↓reduceIte,reduceCtorEq,zaF,o1,o2,o3,eR,eR1,eS,eA,e3,ze,hpl,zco,zbz,hmin,rl,htk]
  refine hK _ _ ?_;clear hK K
  refine PW.e ?_
  refine PL.at [0,2,4,8,9] ih rfl ?_
  rw [←zgk,show min w (p.length - (a+k * s))=w by omega,htk]
  first|rfl|simp [zO,zbz,zco,zat,ze,rl]
 refine PL.round ?_;refine PW.f (fun K k=>by simp (disch:=omega) only [go_sem,↓reduceIte,reduceCtorEq,zjR n];exact k) ?_;refine PW.u ?_
 refine PW.exit ?_
 refine Exists.intro _ (And.intro rfl ?_)
 exact Fin.cut (A:=one H r ⟨5,v,bs (pst p a s w z n)⟩) rfl (zcl _ _ _).symm (fun hh=>HSc.set hh fun x hx=>zq _ _ x hx) (.id (.tup (asc fun x hx=>by cases hx)))
theorem znk (A X Y:Nat) (hA:A≤4) (hX:X≤4) (hY:Y≤4) (H:za):CallOk Tryz.prog 140 [.int .i64 ((16 * A:Nat):Int),.int .i64 (X:Int),.int .i64 (Y:Int)] H (.tup [.agg [.int .i64 ((16 * Y * (16 * A)+16 * X:Nat):Int),.int .i64 ((16 * A:Nat):Int),.int .i64 ((16:Nat):Int),.int .i64 ((16:Nat):Int)],.agg [.int .i64 ((8 * Y * (8 * A)+8 * X:Nat):Int),.int .i64 ((8 * A:Nat):Int),.int .i64 ((8:Nat):Int),.int .i64 ((8:Nat):Int)]]) H:=by
 show CallOk _ _ _ H (.tup [.agg [.int .i64 ((16 * Y * (16 * A)+16 * X:Nat):Int),.int .i64 ((16 * A:Nat):Int),.int .i64 16,.int .i64 16],.agg [.int .i64 ((8 * Y * (8 * A)+8 * X:Nat):Int),.int .i64 ((8 * A:Nat):Int),.int .i64 8,.int .i64 8]]) H
 have n1:16 * Y * (16 * A)≤64 * 64:=Nat.mul_le_mul (by omega) (by omega)
 have n2:8 * Y * (8 * A)≤32 * 32:=Nat.mul_le_mul (by omega) (by omega)
 have d1:((16 * A:Nat):Int).tdiv 2=((8 * A:Nat):Int):=by rw [zx _ _ (by omega)];omega
 have m1:(16:Int) * (Y:Int)=((16 * Y:Nat):Int):=by omega
 have m2:(16:Int) * (X:Int)=((16 * X:Nat):Int):=by omega
 have m3:(8:Int) * (Y:Int)=((8 * Y:Nat):Int):=by omega
 have m4:(8:Int) * (X:Int)=((8 * X:Nat):Int):=by omega
 have m5:((16 * Y:Nat):Int) * ((16 * A:Nat):Int)=((16 * Y * (16 * A):Nat):Int):=(Int.natCast_mul _ _).symm
 have m6:((8 * Y:Nat):Int) * ((8 * A:Nat):Int)=((8 * Y * (8 * A):Nat):Int):=(Int.natCast_mul _ _).symm
 have m7:((16 * Y * (16 * A):Nat):Int)+((16 * X:Nat):Int)=((16 * Y * (16 * A)+16 * X:Nat):Int):=(Int.natCast_add _ _).symm
 have m8:((8 * Y * (8 * A):Nat):Int)+((8 * X:Nat):Int)=((8 * Y * (8 * A)+8 * X:Nat):Int):=(Int.natCast_add _ _).symm
 refine CallOk.body (F0:=[(0,.int .i64 ((16 * A:Nat):Int)),(1,.int .i64 (X:Int)),(2,.int .i64 (Y:Int))]) Tryz.func140 rfl Tryz.ntmps140 Tryz.results140 rfl (by kernel_rfl) rfl ?_
 refine PW.e ?_
 refine PW.f (fun K k=>by simp (disch:=omega) only [go_sem,↓reduceIte,reduceCtorEq,m1,m2,m5,m7];exact k) ?_
 refine PW.f (fun K k=>by simp (disch:=omega) only [go_sem,↓reduceIte,reduceCtorEq,d1,m3,m4,m6,m8];exact k) ?_
 (repeat refine PW.seq ?_);refine PW.drawi [H.length,H.length+1] [(6,[0]),(7,[1])] [] [] mix (by kernel_rfl) (by simp<;>omega) fun K hK=> ?_
 simp (disch:=omega) only [go_sem,↓reduceIte,reduceCtorEq]
 refine hK _ _ ?_;clear hK K
 refine PW.ret ⟨.tup [.agg [.int .i64 ((16 * Y * (16 * A)+16 * X:Nat):Int),.int .i64 ((16 * A:Nat):Int),.int .i64 16,.int .i64 16],.agg [.int .i64 ((8 * Y * (8 * A)+8 * X:Nat):Int),.int .i64 ((8 * A:Nat):Int),.int .i64 8,.int .i64 8]],by simp (disch:=omega) only [go_sem,↓reduceIte,reduceCtorEq,zd,zg,List.mapM_cons,List.mapM_nil,Option.pure_def,Option.bind_eq_bind,Option.bind_some,Array.toList],?_⟩
 refine Fin.base (.id (.tup (asc fun x hx=> ?_)))
 simp only [List.mem_cons,List.not_mem_nil,or_false] at hx
 rcases hx with rfl|rfl<;>exact zB (zbK _ _ _ _ _)
set_option maxHeartbeats 3200000 in
set_option maxRecDepth 100000 in
theorem zoC (A B X Y:Nat) (f m:Fm) (hf:Gok A B f) (hm:F16 m) (hX:X<A) (hY:Y<B) (H:za):
  CallOk Tryz.prog 76 [.agg (fmc f),.int .i64 (X:Int),.int .i64 (Y:Int),.agg (fmc m)] H (.tup [.agg (fmc (smF A X Y f m)),.int .i64 0]) H:=by
 have ho:=fun K=>zk9 f (X:Int) (Y:Int) K
 rw [hf.has hX hY] at ho
 have fo:=fun K=>zaR m K
 have hmv:=hm.fvd
 unfold fvd at hmv
 rw [Bool.and_eq_true] at hmv
 rw [hmv.1] at fo
 obtain ⟨q1,q2,q3⟩:=zlL hf hm hX hY
 have mg:=fun K=>znk A X Y hf.ra.2 (by have:=hf.ra;omega) (by have:=hf.rb;omega) K
 obtain ⟨w,ht,y,u,v⟩:=f
 obtain ⟨w',ht',y',u',v'⟩:=m
 obtain ⟨hw,hh,ra,rb,ly,lu,lv⟩:=hf
 obtain ⟨hw',hh',ly',lu',lv'⟩:=hm
 simp only at hw hh ly lu lv hw' hh' ly' lu' lv'
 subst hw hh hw' hh'
 have nb1:16 * A * (16 * B)≤64 * 64:=Nat.mul_le_mul (by omega) (by omega)
 have nb2:8 * A * (8 * B)≤32 * 32:=Nat.mul_le_mul (by omega) (by omega)
 have nb3:0<16 * A * (16 * B):=Nat.mul_pos (by omega) (by omega)
 have nb4:0<8 * A * (8 * B):=Nat.mul_pos (by omega) (by omega)
 have n1:16 * Y * (16 * A)≤64 * 64:=Nat.mul_le_mul (by omega) (by omega)
 have n2:8 * Y * (8 * A)≤32 * 32:=Nat.mul_le_mul (by omega) (by omega)
 have p1:=fun r K hr=>ze6 y y' r 1 (16 * Y * (16 * A)+16 * X) (16 * A) 16 16 true false K hr (by omega) (by omega) (by omega) (by omega) (rows_in ly (by omega) (by omega)) (by omega)
 have p2:=fun r K hr=>ze6 u u' r 1 (8 * Y * (8 * A)+8 * X) (8 * A) 8 8 true false K hr (by omega) (by omega) (by omega) (by omega) (rows_in lu (by omega) (by omega)) (by omega)
 have p3:=fun r K hr=>ze6 v v' r 1 (8 * Y * (8 * A)+8 * X) (8 * A) 8 8 true false K hr (by omega) (by omega) (by omega) (by omega) (rows_in lv (by omega) (by omega)) (by omega)
 have fc:=zhL ((16 * A:Nat):Int) ((16 * B:Nat):Int) y u v (H++[⟨33,0,fmc ⟨((16 * A:Nat):Int),((16 * B:Nat):Int),y,u,v⟩⟩,⟨33,0,fmc ⟨16,16,y',u',v'⟩⟩,⟨33,0,[.int .i64 0,.int .i64 0,.slice [] 0 true,.slice [] 0 true,.slice [] 0 true]⟩]) (by omega) (by omega) (by omega)
 have hres:fmc (smF A X Y ⟨((16 * A:Nat):Int),((16 * B:Nat):Int),y,u,v⟩ ⟨16,16,y',u',v'⟩)=[.int .i64 ((16 * A:Nat):Int),.int .i64 ((16 * B:Nat):Int),.slice (bs (pst y (16 * Y * (16 * A)+16 * X) (16 * A) 16 y' 16)) y.length false,.slice (bs (pst u (8 * Y * (8 * A)+8 * X) (8 * A) 8 u' 8)) u.length false,.slice (bs (pst v (8 * Y * (8 * A)+8 * X) (8 * A) 8 v' 8)) v.length false]:=by
  unfold fmc
  rw [q1,q2,q3]
  rfl
 rw [hres]
 have k1:(pst y (16 * Y * (16 * A)+16 * X) (16 * A) 16 y' 16).length=y.length:=q1
 have k2:(pst u (8 * Y * (8 * A)+8 * X) (8 * A) 8 u' 8).length=u.length:=q2
 have k3:(pst v (8 * Y * (8 * A)+8 * X) (8 * A) 8 v' 8).length=v.length:=q3
 clear hres q1 q2 q3 hmv
 generalize pst y (16 * Y * (16 * A)+16 * X) (16 * A) 16 y' 16=PY at p1 k1 ⊢
 generalize pst u (8 * Y * (8 * A)+8 * X) (8 * A) 8 u' 8=PU at p2 k2 ⊢
 generalize pst v (8 * Y * (8 * A)+8 * X) (8 * A) 8 v' 8=PV1 at p3 k3 ⊢
 generalize 16 * Y * (16 * A)+16 * X=a1 at p1 mg
 generalize 8 * Y * (8 * A)+8 * X=a2 at p2 p3 mg
 simp only [fmc,plc,cpB,hl3,List.append_assoc,List.cons_append,List.nil_append,Nat.add_assoc,Nat.reduceAdd] at ho fo fc ⊢
 refine CallOk.body (F0:=[(0,.agg [.int .i64 ((16 * A:Nat):Int),.int .i64 ((16 * B:Nat):Int),.slice (bs y) y.length false,.slice (bs u) u.length false,.slice (bs v) v.length false]),(1,.int .i64 (X:Int)),(2,.int .i64 (Y:Int)),(3,.agg [.int .i64 16,.int .i64 16,.slice (bs y') y'.length false,.slice (bs u') u'.length false,.slice (bs v') v'.length false])]) Tryz.func76 rfl Tryz.ntmps76 Tryz.results76 rfl (by kernel_rfl) rfl ?_
 refine PW.e ?_
 (repeat refine PW.seq ?_)
 refine PW.rgv (P:=Tryz.prog) [1,2,4,7,8,9] 32 (.bool false) ?_ ?_ ?_
 ·rfl
 ·clear p1 p2 p3 fc mg
  simp (disch:=omega) only [go_sem,↓reduceIte,reduceCtorEq];(repeat' (first|((first|refine zj ?_ ?_|refine And.intro ?_ ?_)<;>intro h<;>(try simp only [nqb] at h)<;>simp (disch:=omega) only [go_sem,↓reduceIte,reduceCtorEq,h])|((first|refine VCx.call (ho _) rfl ?_|refine VCx.call (fo _) rfl ?_);simp (disch:=omega) only [go_sem,↓reduceIte,reduceCtorEq])))
  all_goals (simp_all [slot,Nat.beq]<;>first|rfl|omega|(rw [Bool.eq_iff_iff];simp;done)|(rw [Bool.eq_iff_iff];simp;omega))
 refine PW.us ?_
 refine PW.view (Vs.place 5) ?_
 refine PW.view (Vs.place 5) ?_
 refine PW.view (Vs.place 5) ?_
 refine PW.f (fun K k=>by simp (disch:=omega) only [go_sem,↓reduceIte,reduceCtorEq];refine VCx.call (fc) rfl ?_;simp (disch:=omega) only [go_sem,↓reduceIte,reduceCtorEq];exact k) ?_
 refine PW.f (fun K k=>by simp (disch:=omega) only [go_sem,↓reduceIte,reduceCtorEq];refine VCx.call (mg _) rfl ?_;simp (disch:=omega) only [go_sem,↓reduceIte,reduceCtorEq];exact k) ?_
 refine PW.f (fun K k=>by simp (disch:=omega) only [go_sem,↓reduceIte,reduceCtorEq];refine VCx.call (p1 _ _ (apn _ _ 3)) rfl ?_;simp (disch:=omega) only [go_sem,↓reduceIte,reduceCtorEq];exact k) ?_
 refine PW.f (fun K k=>by simp (disch:=omega) only [go_sem,↓reduceIte,reduceCtorEq];refine VCx.call (p2 _ _ (apn _ _ 4)) rfl ?_;simp (disch:=omega) only [go_sem,↓reduceIte,reduceCtorEq];exact k) ?_
 refine PW.f (fun K k=>by simp (disch:=omega) only [go_sem,↓reduceIte,reduceCtorEq];refine VCx.call (p3 _ _ (apn _ _ 5)) rfl ?_;simp (disch:=omega) only [go_sem,↓reduceIte,reduceCtorEq];exact k) ?_
 refine PW.e ?_
 refine PW.ret ⟨.tup [.agg [.int .i64 ((16 * A:Nat):Int),.int .i64 ((16 * B:Nat):Int),.msl (H.length+3) 1 0 y.length 1 true,.msl (H.length+4) 1 0 u.length 1 true,.msl (H.length+5) 1 0 v.length 1 true],.int .i64 0],by simp (disch:=omega) only [go_sem,↓reduceIte,reduceCtorEq,zd,zg,List.mapM_cons,List.mapM_nil,Option.pure_def,Option.bind_eq_bind,Option.bind_some,Array.toList],?_⟩
 refine Fin.base (Fz.tupC ⟨Fz.aggC ⟨.id (.int _ _),.id (.int _ _),Fz.mslC (e:=5) (xs:=bs PY) (by omega) (apn _ _ 3) (by rw [ze];omega) (FzC.refl (zq _ _)),Fz.mslC (e:=5) (xs:=bs PU) (by omega) (apn _ _ 4) (by rw [ze];omega) (FzC.refl (zq _ _)),Fz.mslC (e:=5) (xs:=bs PV1) (by omega) (apn _ _ 5) (by rw [ze];omega) (FzC.refl (zq _ _)),trivial⟩,.id (.int _ _),trivial⟩)
end Go.Proofs.YtjgmdlcjbgiekaaGreatDoor.Sc
