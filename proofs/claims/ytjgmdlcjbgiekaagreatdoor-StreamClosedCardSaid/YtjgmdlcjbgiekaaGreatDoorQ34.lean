/-
  Parts of the proof, put together in one text. No condition.
-/
import Derived.Test.YtjgmdlcjbgiekaaGreatDoorQ33
namespace Go.Proofs.YtjgmdlcjbgiekaaGreatDoor.Sc
set_option linter.all false
open Pm Ty Go.RowKit
theorem zl3 (v:Int) (h: -200≤v∧v≤400):zbc .and .i64 v .i64 1=some (.int .i64 (v%2)):=by
 have key:∀ n:Nat,n<601→IntKind.i64.wrap (((BitVec.ofInt 64 ((n:Int) - 200)&&& BitVec.ofInt 64 1).toNat:Nat):Int)=((n:Int) - 200)%2:=by decide+kernel
 have:=key (v+200).toNat (by omega)
 rw [show (((v+200).toNat:Nat):Int) - 200=v by omega] at this
 show some (PV.int .i64 (IntKind.i64.wrap (((BitVec.ofInt 64 v&&& BitVec.ofInt 64 1).toNat:Nat):Int)))=_
 rw [this]
theorem zid (k':IntKind) (v:Int):zbc .shr .i64 v k' 1=some (.int .i64 (v / 2)):=by
 simp only [zbc]
 rw [if_neg (by omega),show min (1:Int).toNat IntKind.i64.bits=1 by decide,Int.fdiv_eq_ediv_of_nonneg _ (by decide)]
 rfl
theorem zrw (k':IntKind) (v:Int):zbc .shr .i64 v k' 2=some (.int .i64 (v / 4)):=by
 simp only [zbc]
 rw [if_neg (by omega),show min (2:Int).toNat IntKind.i64.bits=2 by decide,Int.fdiv_eq_ediv_of_nonneg _ (by decide)]
 rfl
theorem zdH (i n:Int) (hn:1≤n∧n≤10000) (H:za):CallOk Tryz.prog 311 [.int .i64 i,.int .i64 n] H (.int .i64 (clm i n)) H:=by
 refine CallOk.body (F0:=[(0,.int .i64 i),(1,.int .i64 n)]) Tryz.func311 rfl Tryz.ntmps311 Tryz.results311 rfl (by kernel_rfl) rfl ?_
 refine PW.e ?_
 refine PW.e ?_
 (refine PW.ret ⟨_,rfl,?_⟩;first|refine .inl ⟨?_,rfl⟩|refine Fin.base (.id' ?_ (.bool _))|refine Fin.base (.id' ?_ (.int _ _)))
 simp [slot,Nat.beq];unfold clm;omega
theorem zf0 {i:Int} {n:Nat} (hn:1≤n):∃ a:Nat,clm i n=(a:Int)∧a<n:=by
 have:=zu2 (i:=i) (n:=(n:Int)) (by omega)
 exact ⟨(clm i n).toNat,by omega,by omega⟩
theorem zmH {a b W R:Nat} (ha:a<W) (hb:b<R):b * W+a<W * R∧b * W≤W * R:=by
 have h1:(b+1) * W≤R * W:=Nat.mul_le_mul_right _ (by omega)
 rw [Nat.add_mul,Nat.one_mul,Nat.mul_comm R W] at h1
 omega
structure Itp (i2 i3 i4 i5 i6:Nat) (p:List UInt8) (W R:Nat) (dx dy:Int) (H:za):Prop where
 a:H[i2]? =some ⟨3,0,[.int .i64 (W:Int)]⟩
 b:H[i3]? =some ⟨3,1,[.int .i64 dx]⟩
 c:H[i4]? =some ⟨3,0,[.int .i64 (R:Int)]⟩
 d:H[i5]? =some ⟨3,1,[.int .i64 dy]⟩
 e:H[i6]? =some ⟨31,0,[.slice (bs p) p.length false]⟩
set_option maxHeartbeats 1600000 in
theorem zus (i2 i3 i4 i5 i6:Nat) (p:List UInt8) (W R:Nat) (dx dy c r:Int) (H:za) (hI:Itp i2 i3 i4 i5 i6 p W R dx dy H) (hp:p.length=W * R) (hW:1≤W∧W≤64) (hR:1≤R∧R≤64) (hd:0≤dx∧dx≤1∧0≤dy∧dy≤1) (hc: -1000≤c∧c≤1000∧-1000≤r∧r≤1000):
  CallOk Tryz.prog 310 [.int .i64 c,.int .i64 r,.ptr i2 0 0,.ptr i3 1 0,.ptr i4 0 0,.ptr i5 1 0,.ptr i6 0 0] H (.int .u8 ((smp p W R c r+smp p W R (c+dx) r+smp p W R c (r+dy)+smp p W R (c+dx) (r+dy)+2) / 4)) H:=by
 obtain ⟨h2,h3,h4,h5,h6⟩:=hI
 have n1:=fun K=>zdH c W (by omega) K
 have n2:=fun K=>zdH (c+dx) W (by omega) K
 have n3:=fun K=>zdH r R (by omega) K
 have n4:=fun K=>zdH (r+dy) R (by omega) K
 have s1:smp p W R c r=byt p (clm r R * W+clm c W).toNat:=rfl
 have s2:smp p W R (c+dx) r=byt p (clm r R * W+clm (c+dx) W).toNat:=rfl
 have s3:smp p W R c (r+dy)=byt p (clm (r+dy) R * W+clm c W).toNat:=rfl
 have s4:smp p W R (c+dx) (r+dy)=byt p (clm (r+dy) R * W+clm (c+dx) W).toNat:=rfl
 obtain ⟨a,ea,la⟩:=zf0 (i:=c) hW.1
 obtain ⟨b,eb,lb⟩:=zf0 (i:=c+dx) hW.1
 obtain ⟨u,eu,lu⟩:=zf0 (i:=r) hR.1
 obtain ⟨l,el,ll⟩:=zf0 (i:=r+dy) hR.1
 rw [ea] at n1;rw [eb] at n2;rw [eu] at n3;rw [el] at n4
 rw [ea,eu] at s1;rw [eb,eu] at s2;rw [ea,el] at s3;rw [eb,el] at s4
 have bg:W * R≤64 * 64:=Nat.mul_le_mul (by omega) (by omega)
 have k1:=zmH la lu
 have k2:=zmH lb lu
 have k3:=zmH la ll
 have k4:=zmH lb ll
 have e0:(u:Int) * (W:Int)=((u * W:Nat):Int):=by simp
 have e1:(l:Int) * (W:Int)=((l * W:Nat):Int):=by simp
 have e2:((u * W:Nat):Int)+(a:Int)=((u * W+a:Nat):Int):=by omega
 have e3:((u * W:Nat):Int)+(b:Int)=((u * W+b:Nat):Int):=by omega
 have e4:((l * W:Nat):Int)+(a:Int)=((l * W+a:Nat):Int):=by omega
 have e5:((l * W:Nat):Int)+(b:Int)=((l * W+b:Nat):Int):=by omega
 rw [e0,e2,Int.toNat_natCast] at s1
 rw [e0,e3,Int.toNat_natCast] at s2
 rw [e1,e4,Int.toNat_natCast] at s3
 rw [e1,e5,Int.toNat_natCast] at s4
 rw [s1,s2,s3,s4]
 have r1:=zaa p (u * W+a)
 have r2:=zaa p (u * W+b)
 have r3:=zaa p (l * W+a)
 have r4:=zaa p (l * W+b)
 refine CallOk.body (F0:=[(0,.int .i64 c),(1,.int .i64 r),(2,.ptr i2 0 0),(3,.ptr i3 1 0),(4,.ptr i4 0 0),(5,.ptr i5 1 0),(6,.ptr i6 0 0)]) Tryz.func310 rfl Tryz.ntmps310 Tryz.results310 rfl (by kernel_rfl) rfl ?_
 refine PW.e ?_
 (repeat refine PW.seq ?_);refine PW.draw mix (by kernel_rfl) fun K hK=> ?_;simp (disch:=omega) only [go_sem,↓reduceIte,reduceCtorEq,h2,h3]
 (repeat' (first|((first|refine zn ?_ ?_|refine And.intro ?_ ?_)<;>intro h<;>(try simp only [nqb] at h)<;>simp (disch:=omega) only [go_sem,↓reduceIte,reduceCtorEq,h2,h3,h])|((first|refine VCy.call (n1 _) rfl ?_|refine VCy.call (n2 _) rfl ?_);simp (disch:=omega) only [go_sem,↓reduceIte,reduceCtorEq,h2,h3])))
 refine hK _ _ ?_;clear hK K
 (repeat refine PW.seq ?_);refine PW.draw mix (by kernel_rfl) fun K hK=> ?_;simp (disch:=omega) only [go_sem,↓reduceIte,reduceCtorEq,h2,h4,h5,e0,e1]
 (repeat' (first|((first|refine zn ?_ ?_|refine And.intro ?_ ?_)<;>intro h<;>(try simp only [nqb] at h)<;>simp (disch:=omega) only [go_sem,↓reduceIte,reduceCtorEq,h2,h4,h5,e0,e1,h])|((first|refine VCy.call (n3 _) rfl ?_|refine VCy.call (n4 _) rfl ?_);simp (disch:=omega) only [go_sem,↓reduceIte,reduceCtorEq,h2,h4,h5,e0,e1])))
 refine hK _ _ ?_;clear hK K
 (repeat refine PW.seq ?_);refine PW.draw mix (by kernel_rfl) fun K hK=> ?_;simp (disch:=omega) only [go_sem,↓reduceIte,reduceCtorEq,h6,e2,e3,e4,e5,zbr,ze];refine hK _ _ ?_;clear hK K
 refine PW.f (fun K k=>by simp (disch:=omega) only [go_sem,↓reduceIte,reduceCtorEq,zrw];exact k) ?_
 (refine PW.ret ⟨_,rfl,?_⟩;first|refine .inl ⟨?_,rfl⟩|refine Fin.base (.id' ?_ (.bool _))|refine Fin.base (.id' ?_ (.int _ _)))
 rfl
def prk (p:List UInt8) (W R x y:Int) (w:Nat) (vx vy:Int) (k:Nat):List UInt8:=rgB k fun k=>pxl p W R (x+((k%w:Nat):Int)) (y+((k / w:Nat):Int)) vx vy
theorem zlY (p:List UInt8) (W R x y:Int) (w:Nat) (vx vy:Int) (k:Nat):(prk p W R x y w vx vy k).length=k:=zcO _ _
theorem zoV (p:List UInt8) (W R x y:Int) (w:Nat) (vx vy:Int) (j i:Nat) (hi:i<w):bs (prk p W R x y w vx vy (j * w+(i+1)))=bs (prk p W R x y w vx vy (j * w+i))++[.int .u8 (pxl p W R (x+(i:Int)) (y+(j:Int)) vx vy)]:=by
 have e1:(j * w+i)%w=i:=by rw [Nat.add_comm,Nat.add_mul_mod_self_right];exact Nat.mod_eq_of_lt hi
 have e2:(j * w+i) / w=j:=by rw [Nat.add_comm,Nat.add_mul_div_right _ _ (by omega),Nat.div_eq_of_lt hi,Nat.zero_add]
 rw [prk,←Nat.add_assoc,zoL,zat,zu7,e1,e2,zeK (zoR _ _ _ _ _ _ _)]
 rfl
theorem zrx (p:List UInt8) (W R x y:Int) (w h:Nat) (vx vy:Int):prk p W R x y w vx vy (h * w)=prd p W R x y w h vx vy:=by rw [prk,prd,Nat.mul_comm]
set_option maxHeartbeats 3200000 in
theorem zd1 (p:List UInt8) (W R w hg:Nat) (x y vx vy:Int) (H:za) (hp:p.length=W * R) (hW:1≤W∧W≤64) (hR:1≤R∧R≤64) (hw:1≤w∧w≤16) (hgb:hg≤16) (hx:0≤x∧x≤64∧0≤y∧y≤64) (hv: -63≤vx∧vx≤63∧-63≤vy∧vy≤63):
  CallOk Tryz.prog 295 [.slice (bs p) p.length false,.int .i64 (W:Int),.int .i64 (R:Int),.agg [.int .i64 x,.int .i64 y,.int .i64 (w:Int),.int .i64 (hg:Int)],.agg [.int .i64 vx,.int .i64 vy]] H (.slice (bs (prd p W R x y w hg vx vy)) (w * hg) false) H:=by
 have e0:(w:Int) * (hg:Int)=((hg * w:Nat):Int):=by rw [Nat.mul_comm];simp
 have hbig:hg * w≤16 * 16:=Nat.mul_le_mul hgb hw.2
 have a1:=zl3 vx (by omega)
 have a2:=zl3 vy (by omega)
 refine CallOk.body (F0:=[(0,.slice (bs p) p.length false),(1,.int .i64 (W:Int)),(2,.int .i64 (R:Int)),(3,.agg [.int .i64 x,.int .i64 y,.int .i64 (w:Int),.int .i64 (hg:Int)]),(4,.agg [.int .i64 vx,.int .i64 vy])]) Tryz.func295 rfl Tryz.ntmps295 Tryz.results295 rfl (by kernel_rfl) rfl ?_
 refine PW.e ?_
 refine PW.view (Vs.place 3) ?_
 refine PW.view (Vs.place 3) ?_
 (repeat refine PW.seq ?_);refine PW.drawi [H.length+5,H.length+6] [(11,[0]),(12,[1])] [(11,0),(12,1)] [] mix (by kernel_rfl) (by simp<;>omega) fun K hK=> ?_
 simp (disch:=omega) only [go_sem,↓reduceIte,reduceCtorEq,zaF,a1,a2]
 refine hK _ _ ?_;clear hK K
 refine PW.e ?_
 refine PW.f (fun K k=>by simp (disch:=omega) only [go_sem,↓reduceIte,reduceCtorEq,e0];exact k) ?_
 refine PW.e ?_
 (repeat refine PW.seq ?_);refine PW.block (PW.loop ?_)
 suffices h1:∀ j:Nat,j≤hg→PL Tryz.prog _ _ [(8,.ptr (H.length+3) 0 0),(9,.ptr (H.length+4) 0 0),(13,.func 310 [] [.ptr (H.length+1) 0 0,.ptr (H.length+5) 1 0,.ptr (H.length+2) 0 0,.ptr (H.length+6) 1 0,.ptr H.length 0 0]),(14,.msl (H.length+7) (j * w) 0 (j * w) 1 true),(31,.int .i64 (hg:Int)),(32,.int .i64 (j:Int))] (H++[⟨31,0,[.slice (bs p) p.length false]⟩,⟨3,0,[.int .i64 (W:Int)]⟩,⟨3,0,[.int .i64 (R:Int)]⟩,⟨353,0,[.int .i64 x,.int .i64 y,.int .i64 (w:Int),.int .i64 (hg:Int)]⟩,⟨145,0,[.int .i64 vx,.int .i64 vy]⟩,⟨3,1,[.int .i64 (vx%2)]⟩,⟨3,1,[.int .i64 (vy%2)]⟩,⟨5,j * w,bs (prk p W R x y w vx vy (j * w))⟩]) _ by
  exact PL.at [8,9,13,14,31,32] (h1 0 (by omega)) (by rw [Nat.zero_mul];rfl) (by rw [Nat.zero_mul];rfl)
 refine cnt hg (fun j hj ih=> ?_) ?_
 ·have ct:=zhk hj
  refine PL.round ?_;refine PW.f (fun K k=>by simp (disch:=omega) only [go_sem,↓reduceIte,reduceCtorEq,ct];exact k) ?_;refine PW.t ?_
  refine PW.skip ?_;(repeat refine PW.seq ?_);refine PW.block ?_
  refine PW.e ?_
  refine PW.e ?_
  (repeat refine PW.seq ?_);refine PW.block (PW.loop ?_)
  suffices h2:∀ i:Nat,i≤w→PL Tryz.prog _ _ [(8,.ptr (H.length+3) 0 0),(9,.ptr (H.length+4) 0 0),(13,.func 310 [] [.ptr (H.length+1) 0 0,.ptr (H.length+5) 1 0,.ptr (H.length+2) 0 0,.ptr (H.length+6) 1 0,.ptr H.length 0 0]),(14,.msl (H.length+7) (j * w+i) 0 (j * w+i) 1 true),(15,.int .i64 (j:Int)),(31,.int .i64 (hg:Int)),(32,.int .i64 (j:Int)),(36,.int .i64 (w:Int)),(37,.int .i64 (i:Int))] (H++[⟨31,0,[.slice (bs p) p.length false]⟩,⟨3,0,[.int .i64 (W:Int)]⟩,⟨3,0,[.int .i64 (R:Int)]⟩,⟨353,0,[.int .i64 x,.int .i64 y,.int .i64 (w:Int),.int .i64 (hg:Int)]⟩,⟨145,0,[.int .i64 vx,.int .i64 vy]⟩,⟨3,1,[.int .i64 (vx%2)]⟩,⟨3,1,[.int .i64 (vy%2)]⟩,⟨5,j * w+i,bs (prk p W R x y w vx vy (j * w+i))⟩]) _ by
   exact PL.at [8,9,13,14,15,31,32,36,37] (h2 0 (by omega)) rfl rfl
  refine cnt w (fun i hi ih2=> ?_) ?_
  ·have ct:=zhk hi
   refine PL.round ?_;refine PW.f (fun K k=>by simp (disch:=omega) only [go_sem,↓reduceIte,reduceCtorEq,ct];exact k) ?_;refine PW.t ?_
   have b2:(j+1) * w≤hg * w:=Nat.mul_le_mul_right _ (by omega)
   rw [Nat.add_mul,Nat.one_mul] at b2
   have pl:=zlY p W R x y w vx vy (j * w+i)
   have it:=zus (H.length+1) (H.length+5) (H.length+2) (H.length+6) H.length p W R (vx%2) (vy%2) (x+(i:Int)+vx / 2) (y+(j:Int)+vy / 2) (H++[⟨31,0,[.slice (bs p) p.length false]⟩,⟨3,0,[.int .i64 (W:Int)]⟩,⟨3,0,[.int .i64 (R:Int)]⟩,⟨353,0,[.int .i64 x,.int .i64 y,.int .i64 (w:Int),.int .i64 (hg:Int)]⟩,⟨145,0,[.int .i64 vx,.int .i64 vy]⟩,⟨3,1,[.int .i64 (vx%2)]⟩,⟨3,1,[.int .i64 (vy%2)]⟩,⟨5,j * w+i,bs (prk p W R x y w vx vy (j * w+i))⟩]) ⟨apn _ _ 1,apn _ _ 5,apn _ _ 2,apn _ _ 6,hp0 _ _ _⟩ hp hW hR (by omega) (by omega)
   rw [←pxl] at it
   rw [zoV _ _ _ _ _ _ _ _ _ _ hi] at ih2
   refine PW.skip ?_;(repeat refine PW.seq ?_);refine PW.block ?_
   refine PW.e ?_
   refine PW.f (fun K k=>by simp (disch:=omega) only [go_sem,↓reduceIte,reduceCtorEq,zid,ze,pl];refine VCx.call (it) rfl ?_;simp (disch:=omega) only [go_sem,↓reduceIte,reduceCtorEq,zid,ze,pl];exact k) ?_
   refine PW.e ?_
   have lp:(bs (prk p W R x y w vx vy (j * w+i))++[PV.int .u8 (pxl p W R (x+(i:Int)) (y+(j:Int)) vx vy)]).length=j * w+(i+1):=by simp [ze,pl];omega
   exact PL.at [8,9,13,14,15,31,32,36,37] ih2 (by rw [lp];rfl) (by rw [lp])
  ·refine PL.round ?_;refine PW.f (fun K k=>by simp (disch:=omega) only [go_sem,↓reduceIte,reduceCtorEq,zjR w];exact k) ?_;refine PW.u ?_
   refine PW.exit ?_
   refine PW.e ?_
   exact PL.at [8,9,13,14,31,32] ih (by rw [Nat.add_mul,Nat.one_mul];rfl) (by rw [Nat.add_mul,Nat.one_mul])
 refine PL.round ?_;refine PW.f (fun K k=>by simp (disch:=omega) only [go_sem,↓reduceIte,reduceCtorEq,zjR hg];exact k) ?_;refine PW.u ?_
 refine PW.exit ?_
 have pl:=zlY p W R x y w vx vy (hg * w)
 refine PW.e ?_
 rw [←zrx,Nat.mul_comm w hg]
 refine PW.ret ⟨_,rfl,?_⟩
 exact Fin.base (Fz.mslC (e:=5) (xs:=bs (prk p W R x y w vx vy (hg * w))) (by omega) (apn _ _ 7) (by rw [ze,pl];omega) (FzC.refl (zq _ _)))
def flB (N:Nat) (f:Nat→Int) (n:Nat):List UInt8:=rgB N fun j=>if j<n then f j else 0
theorem zmp (N:Nat) (f:Nat→Int) (n:Nat):(flB N f n).length=N:=zcO _ _
theorem ztm (N:Nat) (f:Nat→Int):bs (flB N f 0)=zbE N [PV.int .u8 0]:=by
 rw [zc2]
 congr 1
 apply List.ext_getElem
 ·simp [flB,rgB]
 intro i h1 h2
 simp [flB,rgB,u8]
theorem zmo {N:Nat} {f:Nat→Int} {n:Nat} (hf:0≤f n∧f n≤255):(bs (flB N f n)).set n (.int .u8 (f n))=bs (flB N f (n+1)):=by
 conv=>lhs;rw [←zeK hf]
 rw [zu5]
 congr 1
 apply List.ext_getElem
 ·simp [flB,rgB]
 intro i h1 h2
 simp only [flB,rgB,List.getElem_set,List.getElem_map,List.getElem_range]
 by_cases hi:n=i
 ·subst hi;rw [if_pos rfl,if_pos (by omega)]
 ·rw [if_neg hi]
  by_cases h3:i<n
  ·rw [if_pos h3,if_pos (by omega)]
  ·rw [if_neg h3,if_neg (by omega)]
theorem zmq (N:Nat) (f:Nat→Int):flB N f N=rgB N f:=zrl fun i hi=>if_pos hi
set_option maxHeartbeats 1600000 in
theorem zir (a b:List UInt8) (f g:Bool) (H:za) (hl:a.length=b.length) (ha:a.length≤8192):CallOk Tryz.prog 296 [.slice (bs a) a.length f,.slice (bs b) b.length g] H (.slice (bs (mnb a b)) a.length false) H:=by
 have hz:=ztm a.length (fun i=>(byt a i+byt b i+1) / 2)
 have he:=zmq a.length (fun i=>(byt a i+byt b i+1) / 2)
 rw [←mnb] at he
 refine CallOk.body (F0:=[(0,.slice (bs a) a.length f),(1,.slice (bs b) b.length g)]) Tryz.func296 rfl Tryz.ntmps296 Tryz.results296 rfl (by kernel_rfl) rfl ?_
 refine PW.e ?_
 refine PW.e ?_
 refine PW.e ?_
 (repeat refine PW.seq ?_);refine PW.block (PW.loop ?_)
 suffices h1:∀ k:Nat,k≤a.length→PL Tryz.prog _ _ [(1,.slice (bs b) b.length g),(5,.msl H.length 0 0 a.length 1 true),(11,.slice (bs a) a.length f),(12,.int .i64 (a.length:Int)),(13,.int .i64 (k:Int))] (H++[⟨5,0,bs (flB a.length (fun i=>(byt a i+byt b i+1) / 2) k)⟩]) _ by
  exact PL.at [1,5,11,12,13] (h1 0 (by omega)) rfl (by rw [hz];rfl)
 refine cnt a.length (fun k hk ih=> ?_) ?_
 ·have ct:=zhk hk
  have r1:=zaa a k
  have r2:=zaa b k
  have fl:=zmp a.length (fun i=>(byt a i+byt b i+1) / 2) k
  have fs:=zmo (N:=a.length) (f:=fun i=>(byt a i+byt b i+1) / 2) (n:=k) (by show 0≤(byt a k+byt b k+1) / 2∧(byt a k+byt b k+1) / 2≤255;omega)
  refine PL.round ?_;refine PW.f (fun K k=>by simp (disch:=omega) only [go_sem,↓reduceIte,reduceCtorEq,ct];exact k) ?_;refine PW.t ?_
  refine PW.skip ?_;(repeat refine PW.seq ?_);refine PW.block ?_
  refine PW.f (fun K k=>by simp (disch:=omega) only [go_sem,↓reduceIte,reduceCtorEq,zbr,ze];exact k) ?_
  refine PW.f (fun K k=>by simp (disch:=omega) only [go_sem,↓reduceIte,reduceCtorEq,zbr,ze,fl,zid,fs];exact k) ?_
  refine PW.e ?_
  exact PL.at [1,5,11,12,13] ih rfl rfl
 refine PL.round ?_;refine PW.f (fun K k=>by simp (disch:=omega) only [go_sem,↓reduceIte,reduceCtorEq,zjR a.length];exact k) ?_;refine PW.u ?_
 refine PW.exit ?_
 rw [he]
 refine PW.e ?_
 refine PW.ret ⟨_,rfl,?_⟩
 exact Fin.base (Fz.mslC (e:=5) (xs:=bs (mnb a b)) (by omega) (hp0 _ _ _) (by rw [ze,zcS];omega) (FzC.refl (zq _ _)))
theorem zvT (y u v p:List UInt8) (w h:Int):zhb ⟨w,h,y,u,v⟩ 4 p=⟨w,h,y,p,v⟩:=rfl
theorem zvS (y u v p:List UInt8) (w h:Int):zhb ⟨w,h,y,u,v⟩ 5 p=⟨w,h,y,u,p⟩:=rfl
theorem zvR (y u v p:List UInt8) (w h:Int) {n:Nat} (h4:n≠4) (h5:n≠5):zhb ⟨w,h,y,u,v⟩ n p=⟨w,h,p,u,v⟩:=by unfold zhb;rw [if_neg h4,if_neg h5]
theorem zwM (y u v:List UInt8) (w h:Int) {n:Nat} (h4:n≠4) (h5:n≠5):cmp ⟨w,h,y,u,v⟩ n=y:=by unfold cmp;rw [if_neg h4,if_neg h5]
theorem zqt (w ht:Int) (r a b c:Nat) (n:Nat) (H:za) (hr:r+2<H.length) (hn:n<6):CallOk Tryz.prog 289 [.agg [.int .i64 w,.int .i64 ht,.msl r 1 0 a 1 true,.msl (r+1) 1 0 b 1 true,.msl (r+2) 1 0 c 1 true],.int .i64 (n:Int)] H (if n=4 then .msl (r+1) 1 0 b 1 true else if n=5 then .msl (r+2) 1 0 c 1 true else .msl r 1 0 a 1 true) H:=by
 refine CallOk.body (F0:=[(0,.agg [.int .i64 w,.int .i64 ht,.msl r 1 0 a 1 true,.msl (r+1) 1 0 b 1 true,.msl (r+2) 1 0 c 1 true]),(1,.int .i64 (n:Int))]) Tryz.func289 rfl Tryz.ntmps289 Tryz.results289 rfl (by kernel_rfl) rfl ?_
 refine PW.e ?_
 refine PW.e ?_
 (repeat refine PW.seq ?_);refine PW.block ?_
 refine PW.e ?_
 (repeat refine PW.seq ?_);refine PW.cond (t:=_) rfl (fun h=> ?_) (fun h=> ?_)
 ·have e:n=4:=by have:=of_decide_eq_true h;omega
  subst e
  refine PW.e ?_
  exact PW.ret ⟨_,rfl,Fin.base (.id (.msl (by omega)))⟩
 have e4:n≠4:=by have:=of_decide_eq_false h;omega
 rw [if_neg e4]
 refine PW.e ?_
 (repeat refine PW.seq ?_);refine PW.cond (t:=_) rfl (fun h=> ?_) (fun h=> ?_)
 ·have e:n=5:=by have:=of_decide_eq_true h;omega
  subst e
  refine PW.e ?_
  exact PW.ret ⟨_,rfl,Fin.base (.id (.msl (by omega)))⟩
 have e5:n≠5:=by have:=of_decide_eq_false h;omega
 rw [if_neg e5]
 refine PW.skip ?_
 refine PW.e ?_
 exact PW.ret ⟨_,rfl,Fin.base (.id (.msl (by omega)))⟩
theorem za3 (n:Nat) (a b:Int) (p q r:List UInt8) (i j k:Nat) (e f g:Bool):∀ x∈[PV.int .i64 a,PV.int .i64 b,PV.slice (bs p) i e,PV.slice (bs q) j f,PV.slice (bs r) k g],Scoped n x:=fun x hx=>by
 simp only [List.mem_cons,List.not_mem_nil,or_false] at hx
 rcases hx with rfl|rfl|rfl|rfl|rfl
 ·exact .int _ _
 ·exact .int _ _
 ·exact zo (zq _ _)
 ·exact zo (zq _ _)
 ·exact zo (zq _ _)
theorem zv0 (x:List Int):flB 64 (fun k=>clp (zh x k)) 64=rgB 64 fun k=>clp (zh x k):=zmq _ _
set_option maxHeartbeats 3200000 in
set_option maxRecDepth 100000 in
theorem zjo (f:Fm) (hf:F16 f) (n:Nat) (hn:n<6) (fd:Bool) (x:List Int) (hx:x.length=64) (H:za):
  CallOk Tryz.prog 214 [.agg (fmc f),.int .i64 0,.int .i64 0,.int .i64 (n:Int),.bool fd,.agg (is x)] H (.tup [.agg (fmc (zhb f n (zeh (cmp f n) n fd x))),.int .i64 0]) H:=by
 have hm:=fun K=>zk9 f 0 0 K
 rw [hf.has] at hm
 have po:=fun K=>zjC n fd hn K
 have cl:=hf.cmp hn
 have bfb:bfr n fd≤150∧bst n fd≤150:=by
  rcases or6 hn with rfl|rfl|rfl|rfl|rfl|rfl<;>cases fd<;>decide
 have bb:bln n≤256:=by unfold bln;split<;>omega
 have hfit:∀ k,k<8→bfr n fd+k * bst n fd+8≤(cmp f n).length:=fun k hk=>by rw [cl];exact znw hn k hk
 have zl:(rgB 64 fun k=>clp (zh x k)).length=64:=zcO _ _
 have pa:=fun r K hr=>zb7 (cmp f n) (rgB 64 fun k=>clp (zh x k)) r 1 (bfr n fd) (bst n fd) 8 8 true false K hr (by omega) (by omega) (by omega) zl hfit (by omega)
 have hsl:=zgo (fd:=fd) (x:=x) hn cl
 have hset:pst (cmp f n) (bfr n fd) (bst n fd) 8 (rgB 64 fun k=>clp (zh x k)) 8=zeh (cmp f n) n fd x:=rfl
 have hz:=ztm 64 (fun k=>clp (zh x k))
 obtain ⟨w,ht,y,u,v⟩:=f
 obtain ⟨hw,hh,l1,l2,l3⟩:=hf
 simp only at hw hh l1 l2 l3
 subst hw hh
 rw [hset] at pa
 have hall:=zU x
 have tkx:List.take 64 (is x)=is x:=List.take_of_length_le (by rw [zt];omega)
 have fc:=zhL 16 16 y u v (H++[⟨33,0,fmc ⟨16,16,y,u,v⟩⟩,⟨151,0,is x⟩,⟨33,0,[.int .i64 0,.int .i64 0,.slice [] 0 true,.slice [] 0 true,.slice [] 0 true]⟩]) (by omega) (by omega) (by omega)
 simp only [fmc,plc,l1,l2,l3,zl,hl3,List.append_assoc,List.cons_append,List.nil_append,Nat.add_assoc,Nat.reduceAdd] at hm fc pa ⊢
 unfold zeG at po
 obtain ⟨Z,hZ⟩:∃ Z,rgB 64 (fun k=>clp (zh x k))=Z:=⟨_,rfl⟩
 rw [hZ] at pa zl
 have hZ2:flB 64 (fun k=>clp (zh x k)) 64=Z:=(zv0 x).trans hZ
 refine CallOk.body (F0:=[(0,.agg [.int .i64 16,.int .i64 16,.slice (bs y) 256 false,.slice (bs u) 64 false,.slice (bs v) 64 false]),(1,.int .i64 0),(2,.int .i64 0),(3,.int .i64 (n:Int)),(4,.bool fd),(5,.agg (is x))]) Tryz.func214 rfl Tryz.ntmps214 Tryz.results214 rfl (by kernel_rfl) rfl ?_
 refine PW.f (fun K k=>by simp (disch:=omega) only [go_sem,↓reduceIte,reduceCtorEq,hall];exact k) ?_
 (repeat refine PW.seq ?_)
 refine PW.rgv (P:=Tryz.prog) [1,2,3,4,6,11,12,13] 30 (.bool false) ?_ ?_ ?_
 ·rfl
 ·simp (disch:=omega) only [go_sem,↓reduceIte,reduceCtorEq];(repeat' (first|((first|refine zj ?_ ?_|refine And.intro ?_ ?_)<;>intro h<;>(try simp only [nqb] at h)<;>simp (disch:=omega) only [go_sem,↓reduceIte,reduceCtorEq,h])|((first|refine VCx.call (hm _) rfl ?_);simp (disch:=omega) only [go_sem,↓reduceIte,reduceCtorEq])))
  all_goals (simp_all [slot,Nat.beq]<;>first|rfl|omega|(rw [Bool.eq_iff_iff];simp;done)|(rw [Bool.eq_iff_iff];simp;omega))
 refine PW.us ?_
 refine PW.e ?_
 refine PW.f (fun K k=>by simp (disch:=omega) only [go_sem,↓reduceIte,reduceCtorEq,zt,tkx];exact k) ?_
 (repeat refine PW.seq ?_);refine PW.block (PW.loop ?_)
 suffices h1:∀ k:Nat,k≤64→PL Tryz.prog _ _ [(1,.int .i64 0),(2,.int .i64 0),(3,.int .i64 (n:Int)),(4,.bool fd),(6,.ptr H.length 0 0),(12,.ptr (H.length+2) 0 0),(14,.msl (H.length+3) 0 0 64 1 true),(33,.agg (is x)),(34,.int .i64 (k:Int))] (H++[⟨33,0,[.int .i64 16,.int .i64 16,.slice (bs y) 256 false,.slice (bs u) 64 false,.slice (bs v) 64 false]⟩,⟨151,0,is x⟩,⟨33,0,[.int .i64 0,.int .i64 0,.slice [] 0 true,.slice [] 0 true,.slice [] 0 true]⟩,⟨5,0,bs (flB 64 (fun k=>clp (zh x k)) k)⟩]) _ by
  exact PL.at [1,2,3,4,6,12,14,33,34] (h1 0 (by omega)) rfl (by rw [hz];rfl)
 refine cnt 64 (fun k hk ih=> ?_) ?_
 ·refine PL.round ?_;refine PW.e ?_;refine PW.t ?_
  have b1:=zg5 (zh x k)
  have cp:(if 255<(if zh x k<0 then 0 else zh x k) then 255 else (if zh x k<0 then 0 else zh x k))=clp (zh x k):=by unfold clp;omega
  have f1:=zmo (N:=64) (f:=fun k=>clp (zh x k)) (n:=k) b1
  have f2:=zmp 64 (fun k=>clp (zh x k)) k
  refine PW.skip ?_;(repeat refine PW.seq ?_);refine PW.block ?_
  refine PW.f (fun K k=>by simp (disch:=omega) only [go_sem,↓reduceIte,reduceCtorEq,zbq,zt,hx];exact k) ?_
  refine PW.f (fun K k=>by simp (disch:=omega) only [go_sem,↓reduceIte,reduceCtorEq,ze,f2,cp,f1];exact k) ?_
  refine PW.e ?_
  exact PL.at [1,2,3,4,6,12,14,33,34] ih rfl rfl
 refine PL.round ?_;refine PW.e ?_;refine PW.u ?_
 refine PW.exit ?_
 rw [hZ2]
 refine PW.view (Vs.trim (F1:=[(1,.int .i64 0),(2,.int .i64 0),(3,.int .i64 (n:Int)),(4,.bool fd),(6,.ptr H.length 0 0),(12,.ptr (H.length+2) 0 0),(14,.slice (bs Z) 64 false)]) (H1:=H++[⟨33,0,[.int .i64 16,.int .i64 16,.slice (bs y) 256 false,.slice (bs u) 64 false,.slice (bs v) 64 false]⟩,⟨151,0,is x⟩,⟨33,0,[.int .i64 0,.int .i64 0,.slice [] 0 true,.slice [] 0 true,.slice [] 0 true]⟩]) (ziA ?_) (by simp) (List.append_assoc _ [_,_,_] [_]).symm ?_) ?_
 ·intro b hb z hz
  simp only [List.mem_cons,List.not_mem_nil,or_false] at hb
  rcases hb with rfl|rfl|rfl
  ·exact za3 _ 16 16 y u v _ _ _ _ _ _ z hz
  ·exact zar _ _ z hz
  ·exact za3 _ 0 0 [] [] [] _ _ _ _ _ _ z hz
 ·rw [hl3]
  exact ⟨.id (.int _ _),.id (.int _ _),.id (.int _ _),.id (.bool _),.id (.ptr (by omega)),.id (.ptr (by omega)),Fz.mslC (e:=5) (xs:=bs Z) (by omega) (apn _ _ 3) (by rw [ze,zl]) (FzC.refl (zq _ _)),trivial⟩
 refine PW.view (Vs.place 5) ?_
 refine PW.view (Vs.place 5) ?_
 refine PW.view (Vs.place 5) ?_
 refine PW.f (fun K k=>by simp (disch:=omega) only [go_sem,↓reduceIte,reduceCtorEq];refine VCx.call (fc) rfl ?_;simp (disch:=omega) only [go_sem,↓reduceIte,reduceCtorEq];exact k) ?_
 have co:=fun L hL=>zqt 16 16 (H.length+3) 256 64 64 n L hL hn
 simp only [Nat.add_assoc,Nat.reduceAdd] at co
 by_cases h4:n=4
 ·subst h4
  have cu:cmp ⟨16,16,y,u,v⟩ 4=u:=rfl
  rw [cu] at hsl pa cl
  rw [cu,zvT]
  simp only [if_pos,hsl,l1,l2,l3] at co pa ⊢
  (repeat refine PW.seq ?_);refine PW.drawi [H.length+4] [(50,[0])] [] [50,57] mix (by kernel_rfl) (by simp<;>omega) fun K hK=> ?_
  simp (disch:=omega) only [go_sem,↓reduceIte,reduceCtorEq]
  refine VCj.read (fun L hL=>co L (by have:=hL.len;simp at this;omega)) rfl ?_
  simp (disch:=omega) only [go_sem,↓reduceIte,reduceCtorEq]
  refine VCj.read (fun _ _=>po _) rfl ?_
  simp (disch:=omega) only [go_sem,↓reduceIte,reduceCtorEq]
  refine VCj.wr1 (id:=H.length+4) (k:=cpB u) (b:=cpB (zeh u 4 fd x)) (apn _ _ 4) (fun L hL _=>pa _ L hL) (by simp (disch:=omega) only [go_sem,↓reduceIte,reduceCtorEq]) (.inl rfl) rfl ?_
  simp (disch:=omega) only [go_sem,↓reduceIte,reduceCtorEq]
  refine hK _ _ ?_;clear hK K
  refine PW.e ?_
  refine PW.ret ⟨.tup [.agg [.int .i64 16,.int .i64 16,.msl (H.length+3) 1 0 256 1 true,.msl (H.length+4) 1 0 64 1 true,.msl (H.length+5) 1 0 64 1 true],.int .i64 0],by simp (disch:=omega) only [go_sem,↓reduceIte,reduceCtorEq,zd,zg,List.mapM_cons,List.mapM_nil,Option.pure_def,Option.bind_eq_bind,Option.bind_some,Array.toList],?_⟩
  refine Fin.base (Fz.tupC ⟨Fz.aggC ⟨.id (.int _ _),.id (.int _ _),Fz.mslC (e:=5) (xs:=bs y) (by omega) (apn _ _ 3) (by rw [ze];omega) (FzC.refl (zq _ _)),Fz.mslC (e:=5) (xs:=bs (zeh u 4 fd x)) (by omega) (apn _ _ 4) (by rw [ze];omega) (FzC.refl (zq _ _)),Fz.mslC (e:=5) (xs:=bs v) (by omega) (apn _ _ 5) (by rw [ze];omega) (FzC.refl (zq _ _)),trivial⟩,.id (.int _ _),trivial⟩)
 by_cases h5:n=5
 ·subst h5
  have cu:cmp ⟨16,16,y,u,v⟩ 5=v:=rfl
  rw [cu] at hsl pa cl
  rw [cu,zvS]
  simp only [if_neg h4,if_pos,hsl,l1,l2,l3] at co pa ⊢
  (repeat refine PW.seq ?_);refine PW.drawi [H.length+5] [(50,[0])] [] [50,57] mix (by kernel_rfl) (by simp<;>omega) fun K hK=> ?_
  simp (disch:=omega) only [go_sem,↓reduceIte,reduceCtorEq]
  refine VCj.read (fun L hL=>co L (by have:=hL.len;simp at this;omega)) rfl ?_
  simp (disch:=omega) only [go_sem,↓reduceIte,reduceCtorEq]
  refine VCj.read (fun _ _=>po _) rfl ?_
  simp (disch:=omega) only [go_sem,↓reduceIte,reduceCtorEq]
  refine VCj.wr1 (id:=H.length+5) (k:=cpB v) (b:=cpB (zeh v 5 fd x)) (apn _ _ 5) (fun L hL _=>pa _ L hL) (by simp (disch:=omega) only [go_sem,↓reduceIte,reduceCtorEq]) (.inl rfl) rfl ?_
  simp (disch:=omega) only [go_sem,↓reduceIte,reduceCtorEq]
  refine hK _ _ ?_;clear hK K
  refine PW.e ?_
  refine PW.ret ⟨.tup [.agg [.int .i64 16,.int .i64 16,.msl (H.length+3) 1 0 256 1 true,.msl (H.length+4) 1 0 64 1 true,.msl (H.length+5) 1 0 64 1 true],.int .i64 0],by simp (disch:=omega) only [go_sem,↓reduceIte,reduceCtorEq,zd,zg,List.mapM_cons,List.mapM_nil,Option.pure_def,Option.bind_eq_bind,Option.bind_some,Array.toList],?_⟩
  refine Fin.base (Fz.tupC ⟨Fz.aggC ⟨.id (.int _ _),.id (.int _ _),Fz.mslC (e:=5) (xs:=bs y) (by omega) (apn _ _ 3) (by rw [ze];omega) (FzC.refl (zq _ _)),Fz.mslC (e:=5) (xs:=bs u) (by omega) (apn _ _ 4) (by rw [ze];omega) (FzC.refl (zq _ _)),Fz.mslC (e:=5) (xs:=bs (zeh v 5 fd x)) (by omega) (apn _ _ 5) (by rw [ze];omega) (FzC.refl (zq _ _)),trivial⟩,.id (.int _ _),trivial⟩)
 have cu:cmp ⟨16,16,y,u,v⟩ n=y:=zwM _ _ _ _ _ h4 h5
 rw [cu] at hsl pa cl
 rw [cu,zvR _ _ _ _ _ _ h4 h5]
 simp only [if_neg h4,if_neg h5,hsl,l1,l2,l3] at co pa ⊢
 (repeat refine PW.seq ?_);refine PW.drawi [H.length+3] [(50,[0])] [] [50,57] mix (by kernel_rfl) (by simp<;>omega) fun K hK=> ?_
 simp (disch:=omega) only [go_sem,↓reduceIte,reduceCtorEq]
 refine VCj.read (fun L hL=>co L (by have:=hL.len;simp at this;omega)) rfl ?_
 simp (disch:=omega) only [go_sem,↓reduceIte,reduceCtorEq]
 refine VCj.read (fun _ _=>po _) rfl ?_
 simp (disch:=omega) only [go_sem,↓reduceIte,reduceCtorEq]
 refine VCj.wr1 (id:=H.length+3) (k:=cpB y) (b:=cpB (zeh y n fd x)) (apn _ _ 3) (fun L hL _=>pa _ L hL) (by simp (disch:=omega) only [go_sem,↓reduceIte,reduceCtorEq]) (.inl rfl) rfl ?_
 simp (disch:=omega) only [go_sem,↓reduceIte,reduceCtorEq]
 refine hK _ _ ?_;clear hK K
 refine PW.e ?_
 refine PW.ret ⟨.tup [.agg [.int .i64 16,.int .i64 16,.msl (H.length+3) 1 0 256 1 true,.msl (H.length+4) 1 0 64 1 true,.msl (H.length+5) 1 0 64 1 true],.int .i64 0],by simp (disch:=omega) only [go_sem,↓reduceIte,reduceCtorEq,zd,zg,List.mapM_cons,List.mapM_nil,Option.pure_def,Option.bind_eq_bind,Option.bind_some,Array.toList],?_⟩
 refine Fin.base (Fz.tupC ⟨Fz.aggC ⟨.id (.int _ _),.id (.int _ _),Fz.mslC (e:=5) (xs:=bs (zeh y n fd x)) (by omega) (apn _ _ 3) (by rw [ze];omega) (FzC.refl (zq _ _)),Fz.mslC (e:=5) (xs:=bs u) (by omega) (apn _ _ 4) (by rw [ze];omega) (FzC.refl (zq _ _)),Fz.mslC (e:=5) (xs:=bs v) (by omega) (apn _ _ 5) (by rw [ze];omega) (FzC.refl (zq _ _)),trivial⟩,.id (.int _ _),trivial⟩)
structure Hok (V K:Nat) (f:Fm):Prop where
 w:f.w=((2 * V:Nat):Int)
 h:f.h=((2 * K:Nat):Int)
 rv:1≤V∧V≤32
 rk:1≤K∧K≤16
 ly:f.y.length=2 * K * (2 * V)
 lu:f.u.length=K * V
 lv:f.v.length=K * V
def znK (V K:Nat) (a b:Fm):Fm:=⟨((2 * V:Nat):Int),((4 * K:Nat):Int),wov a.y b.y (2 * V) (2 * K),wov a.u b.u V K,wov a.v b.v V K⟩
theorem ztx (a b:Fm):znK 8 4 a b=wovF a b:=rfl
theorem Hok.fmd {V K:Nat} {f:Fm} (h:Hok V K f):fmd f=true:=by
 obtain ⟨w,ht,y,u,v⟩:=f
 obtain ⟨hw,hh,⟨v1,v2⟩,⟨k1,k2⟩,ly,lu,lv⟩:=h
 simp only at hw hh ly lu lv
 subst hw hh
 have e1:((2 * V:Nat):Int) / 2=(V:Int):=by omega
 have e2:((2 * K:Nat):Int) / 2=(K:Int):=by omega
 have a1:fsz ((2 * V:Nat):Int) ((2 * K:Nat):Int)=true:=by
  simp only [fsz,Bool.and_eq_true,decide_eq_true_eq]
  omega
 have a2:((2 * K * (2 * V):Nat):Int)=((2 * V:Nat):Int) * ((2 * K:Nat):Int):=by rw [Nat.mul_comm];exact Int.natCast_mul _ _
 have a3:((K * V:Nat):Int)=(V:Int) * (K:Int):=by rw [Nat.mul_comm];exact Int.natCast_mul _ _
 simp only [Sc.fmd,a1,e1,e2,ly,lu,lv,a2,a3,decide_true,Bool.and_self]
set_option maxHeartbeats 6400000 in
set_option maxRecDepth 100000 in
theorem zf9 (V K:Nat) (a b:Fm) (ha:Hok V K a) (hb:Hok V K b) (H:za):CallOk Tryz.prog 38 [.agg (fmc a),.agg (fmc b)] H (.tup [.agg (fmc (znK V K a b)),.int .i64 0]) H:=by
 have fa:=fun L=>zaR a L
 have fb:=fun L=>zaR b L
 rw [ha.fmd] at fa
 rw [hb.fmd] at fb
 obtain ⟨w,ht,y,u,v⟩:=a
 obtain ⟨w',ht',y',u',v'⟩:=b
 obtain ⟨hw,hh,⟨v1,v2⟩,⟨k1,k2⟩,ly,lu,lv⟩:=ha
 obtain ⟨hw',hh',_,_,ly',lu',lv'⟩:=hb
 simp only at hw hh ly lu lv hw' hh' ly' lu' lv'
 subst hw hh hw' hh'
 have bN1:2 * K * (2 * (2 * V))≤32 * 128:=Nat.mul_le_mul (by omega) (by omega)
 have bN2:K * (2 * V)≤16 * 64:=Nat.mul_le_mul (by omega) (by omega)
 have bn1:2 * K * (2 * V)≤32 * 64:=Nat.mul_le_mul (by omega) (by omega)
 have bn2:K * V≤16 * 32:=Nat.mul_le_mul (by omega) (by omega)
 have x1:(2:Int) * ((2 * K:Nat):Int)=((4 * K:Nat):Int):=by omega
 have x2:(2:Int) * ((2 * V:Nat):Int)=((2 * (2 * V):Nat):Int):=by omega
 have x3:((2 * (2 * V):Nat):Int) * ((2 * K:Nat):Int)=((2 * K * (2 * (2 * V)):Nat):Int):=by rw [Nat.mul_comm (2 * K)];exact (Int.natCast_mul _ _).symm
 have x4:((2 * V:Nat):Int) * ((2 * K:Nat):Int)=((K * (2 * V) * 2:Nat):Int):=by
  rw [←Int.natCast_mul];congr 1;rw [Nat.mul_comm (2 * V),Nat.mul_comm 2 K,Nat.mul_right_comm]
 have x5:((K * (2 * V) * 2:Nat):Int).tdiv 2=((K * (2 * V):Nat):Int):=by rw [zx _ _ (by omega)];omega
 have y0:(0:Int) * ((2 * V:Nat):Int)=((0:Nat):Int):=by simp
 have y1:((0:Int)+1) * ((2 * V:Nat):Int)=((2 * V:Nat):Int):=by simp
 have y2:((2 * V:Nat):Int).tdiv 2=(V:Int):=by rw [zx _ _ (by omega)];omega
 have y3:((0:Nat):Int).tdiv 2=((0:Nat):Int):=rfl
 have y4:((2 * K:Nat):Int).tdiv 2=(K:Int):=by rw [zx _ _ (by omega)];omega
 obtain ⟨Z1,hZ1,z1⟩:∃ Z:List UInt8,Z=List.replicate (2 * K * (2 * (2 * V))) 0∧Z.length=2 * K * (2 * (2 * V)):=⟨_,rfl,List.length_replicate⟩
 obtain ⟨Z2,hZ2,z2⟩:∃ Z:List UInt8,Z=List.replicate (K * (2 * V)) 0∧Z.length=K * (2 * V):=⟨_,rfl,List.length_replicate⟩
 have r1:(List.replicate (2 * K * (2 * (2 * V))) [PV.int .u8 0]).flatten=bs Z1:=by rw [hZ1];exact zc2 _
 have r2:(List.replicate (K * (2 * V)) [PV.int .u8 0]).flatten=bs Z2:=by rw [hZ2];exact zc2 _
 have fit:=fun (W M L P:Nat) (hP:P≤1) (hL:L=M * (2 * W)) k (hk:k<M)=>(show P * W+k * (2 * W)+W≤L by
  have h1:(k+1) * (2 * W)≤M * (2 * W):=Nat.mul_le_mul_right _ (by omega)
  rw [Nat.add_mul] at h1
  have:P * W≤W:=by
   have:P=0∨P=1:=by omega
   rcases this with rfl|rfl<;>simp
  omega)
 have f1a:∀ k,k<2 * K→0+k * (2 * (2 * V))+2 * V≤Z1.length:=fun k hk=>by have:=fit (2 * V) (2 * K) Z1.length 0 (by omega) z1 k hk;simpa using this
 have f2a:∀ k,k<K→0+k * (2 * V)+V≤Z2.length:=fun k hk=>by have:=fit V K Z2.length 0 (by omega) z2 k hk;simpa using this
 have l1:(pst Z1 0 (2 * (2 * V)) (2 * V) y (2 * K)).length=Z1.length:=zax ly _ (Nat.le_refl _) f1a
 have l2:(pst Z2 0 (2 * V) V u K).length=Z2.length:=zax lu _ (Nat.le_refl _) f2a
 have l3:(pst Z2 0 (2 * V) V v K).length=Z2.length:=zax lv _ (Nat.le_refl _) f2a
 have p1:=fun L hr=>zb7 Z1 y (H.length+3) 1 0 (2 * (2 * V)) (2 * V) (2 * K) true false L hr (by omega) (by omega) (by omega) ly f1a (by omega)
 have p2:=fun L hr=>zb7 Z2 u (H.length+4) 1 0 (2 * V) V K true false L hr (by omega) (by omega) (by omega) lu f2a (by omega)
 have p3:=fun L hr=>zb7 Z2 v (H.length+5) 1 0 (2 * V) V K true false L hr (by omega) (by omega) (by omega) lv f2a (by omega)
 have q1:=fun L hr=>zb7 (pst Z1 0 (2 * (2 * V)) (2 * V) y (2 * K)) y' (H.length+3) 1 (2 * V) (2 * (2 * V)) (2 * V) (2 * K) true false L hr (by omega) (by omega) (by omega) ly' (fun k hk=>by have:=fit (2 * V) (2 * K) Z1.length 1 (by omega) z1 k hk;rw [l1];simpa using this) (by omega)
 have q2:=fun L hr=>zb7 (pst Z2 0 (2 * V) V u K) u' (H.length+4) 1 V (2 * V) V K true false L hr (by omega) (by omega) (by omega) lu' (fun k hk=>by have:=fit V K Z2.length 1 (by omega) z2 k hk;rw [l2];simpa using this) (by omega)
 have q3:=fun L hr=>zb7 (pst Z2 0 (2 * V) V v K) v' (H.length+5) 1 V (2 * V) V K true false L hr (by omega) (by omega) (by omega) lv' (fun k hk=>by have:=fit V K Z2.length 1 (by omega) z2 k hk;rw [l3];simpa using this) (by omega)
 rw [zib ly ly' z1,l1,z1] at q1
 rw [zib lu lu' z2,l2,z2] at q2
 rw [zib lv lv' z2,l3,z2] at q3
 rw [z1] at p1
 rw [z2] at p2 p3
 have w1:(wov y y' (2 * V) (2 * K)).length=2 * K * (2 * (2 * V)):=za0 ly ly' _ (Nat.le_refl _)
 have w2:(wov u u' V K).length=K * (2 * V):=za0 lu lu' _ (Nat.le_refl _)
 have w3:(wov v v' V K).length=K * (2 * V):=za0 lv lv' _ (Nat.le_refl _)
 simp only [fmc,znK,w1,w2,w3,ly,lu,lv,ly',lu',lv'] at fa fb p1 p2 p3 q1 q2 q3 ⊢
 generalize pst Z1 0 (2 * (2 * V)) (2 * V) y (2 * K)=T1 at p1 q1 l1
 generalize pst Z2 0 (2 * V) V u K=T2 at p2 q2 l2
 generalize pst Z2 0 (2 * V) V v K=T3 at p3 q3 l3
 generalize wov y y' (2 * V) (2 * K)=W1 at q1 w1 ⊢
 generalize wov u u' V K=W2 at q2 w2 ⊢
 generalize wov v v' V K=W3 at q3 w3 ⊢
 clear hZ1 hZ2 f1a f2a fit
 refine CallOk.body (F0:=[(0,.agg [.int .i64 ((2 * V:Nat):Int),.int .i64 ((2 * K:Nat):Int),.slice (bs y) (2 * K * (2 * V)) false,.slice (bs u) (K * V) false,.slice (bs v) (K * V) false]),(1,.agg [.int .i64 ((2 * V:Nat):Int),.int .i64 ((2 * K:Nat):Int),.slice (bs y') (2 * K * (2 * V)) false,.slice (bs u') (K * V) false,.slice (bs v') (K * V) false])]) Tryz.func38 rfl Tryz.ntmps38 Tryz.results38 rfl (by kernel_rfl) rfl ?_
 refine PW.e ?_
 (repeat refine PW.seq ?_)
 refine PW.rgv (P:=Tryz.prog) [2,3,4,5] 38 (.bool false) ?_ ?_ ?_
 ·rfl
 ·simp (maxSteps:=3000000) (disch:=omega) only [go_sem,↓reduceIte,reduceCtorEq];(repeat' (first|((first|refine zj ?_ ?_|refine And.intro ?_ ?_)<;>intro h<;>(try simp only [nqb] at h)<;>simp (maxSteps:=3000000) (disch:=omega) only [go_sem,↓reduceIte,reduceCtorEq,h])|((first|refine VCx.call (fa _) rfl ?_|refine VCx.call (fb _) rfl ?_);simp (maxSteps:=3000000) (disch:=omega) only [go_sem,↓reduceIte,reduceCtorEq])))
  all_goals (simp_all [slot,Nat.beq]<;>first|rfl|omega|(rw [Bool.eq_iff_iff];simp;done)|(rw [Bool.eq_iff_iff];simp;omega))
 refine PW.us ?_
 (repeat refine PW.seq ?_);refine PW.draw mix (by kernel_rfl) fun K hK=> ?_;simp (maxSteps:=3000000) (disch:=omega) only [go_sem,↓reduceIte,reduceCtorEq];refine hK _ _ ?_;clear hK K
 refine PW.view (Vs.place 5) ?_
 refine PW.view (Vs.place 5) ?_
 refine PW.view (Vs.place 5) ?_
 refine PW.view (Vs.place 33) ?_
 (repeat refine PW.seq ?_);refine PW.drawi [H.length+3,H.length+4,H.length+5,H.length+6] [(51,[0]),(56,[1]),(61,[2]),(8,[3])] [(51,0),(56,1),(61,2),(8,3)] [] mix (by kernel_rfl) (by simp<;>omega) fun K hK=> ?_
 simp (maxSteps:=3000000) (disch:=omega) only [go_sem,↓reduceIte,reduceCtorEq,zaF,x1,x2,x3,x4,x5]
 refine hK _ _ ?_;clear hK K
 rw [r1,r2]
 refine PW.e ?_
 (repeat refine PW.seq ?_);refine PW.block (PW.loop ?_)
 refine PL.round ?_;refine PW.e ?_;refine PW.t ?_
 refine PW.skip ?_;(repeat refine PW.seq ?_);refine PW.block ?_
 refine PW.e ?_
 refine PW.f (fun K k=>by simp (maxSteps:=3000000) (disch:=omega) only [go_sem,↓reduceIte,reduceCtorEq,y0,x2];refine VCx.call (p1 _ (apn _ _ 3)) rfl ?_;simp (maxSteps:=3000000) (disch:=omega) only [go_sem,↓reduceIte,reduceCtorEq,y0,x2];exact k) ?_
 refine PW.f (fun K k=>by simp (maxSteps:=3000000) (disch:=omega) only [go_sem,↓reduceIte,reduceCtorEq,y0,x2,y2,y3,y4];refine VCx.call (p2 _ (apn _ _ 4)) rfl ?_;simp (maxSteps:=3000000) (disch:=omega) only [go_sem,↓reduceIte,reduceCtorEq,y0,x2,y2,y3,y4];exact k) ?_
 refine PW.f (fun K k=>by simp (maxSteps:=3000000) (disch:=omega) only [go_sem,↓reduceIte,reduceCtorEq,y0,x2,y2,y3,y4];refine VCx.call (p3 _ (apn _ _ 5)) rfl ?_;simp (maxSteps:=3000000) (disch:=omega) only [go_sem,↓reduceIte,reduceCtorEq,y0,x2,y2,y3,y4];exact k) ?_
 refine PW.e ?_
 refine PL.round ?_;refine PW.e ?_;refine PW.t ?_
 refine PW.skip ?_;(repeat refine PW.seq ?_);refine PW.block ?_
 refine PW.e ?_
 refine PW.f (fun K k=>by simp (maxSteps:=3000000) (disch:=omega) only [go_sem,↓reduceIte,reduceCtorEq,y1,x2];refine VCx.call (q1 _ (apn _ _ 3)) rfl ?_;simp (maxSteps:=3000000) (disch:=omega) only [go_sem,↓reduceIte,reduceCtorEq,y1,x2];exact k) ?_
 refine PW.f (fun K k=>by simp (maxSteps:=3000000) (disch:=omega) only [go_sem,↓reduceIte,reduceCtorEq,y1,x2,y2,y3,y4];refine VCx.call (q2 _ (apn _ _ 4)) rfl ?_;simp (maxSteps:=3000000) (disch:=omega) only [go_sem,↓reduceIte,reduceCtorEq,y1,x2,y2,y3,y4];exact k) ?_
 refine PW.f (fun K k=>by simp (maxSteps:=3000000) (disch:=omega) only [go_sem,↓reduceIte,reduceCtorEq,y1,x2,y2,y3,y4];refine VCx.call (q3 _ (apn _ _ 5)) rfl ?_;simp (maxSteps:=3000000) (disch:=omega) only [go_sem,↓reduceIte,reduceCtorEq,y1,x2,y2,y3,y4];exact k) ?_
 refine PW.e ?_
 refine PL.round ?_;refine PW.e ?_;refine PW.u ?_
 refine PW.exit ?_
 refine PW.e ?_
 refine PW.ret ⟨.tup [.agg [.int .i64 ((2 * V:Nat):Int),.int .i64 ((4 * K:Nat):Int),.msl (H.length+3) 1 0 (2 * K * (2 * (2 * V))) 1 true,.msl (H.length+4) 1 0 (K * (2 * V)) 1 true,.msl (H.length+5) 1 0 (K * (2 * V)) 1 true],.int .i64 0],by simp (maxSteps:=3000000) (disch:=omega) only [go_sem,↓reduceIte,reduceCtorEq,zd,zg,List.mapM_cons,List.mapM_nil,Option.pure_def,Option.bind_eq_bind,Option.bind_some,Array.toList],?_⟩
 refine Fin.base (Fz.tupC ⟨Fz.aggC ⟨.id (.int _ _),.id (.int _ _),Fz.mslC (e:=5) (xs:=bs W1) (by omega) (apn _ _ 3) (by rw [ze];omega) (FzC.refl (zq _ _)),Fz.mslC (e:=5) (xs:=bs W2) (by omega) (apn _ _ 4) (by rw [ze];omega) (FzC.refl (zq _ _)),Fz.mslC (e:=5) (xs:=bs W3) (by omega) (apn _ _ 5) (by rw [ze];omega) (FzC.refl (zq _ _)),trivial⟩,.id (.int _ _),trivial⟩)
end Go.Proofs.YtjgmdlcjbgiekaaGreatDoor.Sc
