/-
  Parts of the proof, put together in one text. No condition.
-/
import Derived.Test.YtjgmdlcjbgiekaaGreatDoorQ24
namespace Go.Proofs.YtjgmdlcjbgiekaaGreatDoor.Sc
set_option linter.all false
open Pm Ty Go.RowKit
theorem tC_x (s:St) (w:Nat) (c:Cx) (mi:Nat) (hl:Bool) (d:Nat) (hd:d<2):(tC s w c mi hl)[4+d * 2]? =some (.int .i64 (sXs s d)):=by
 have:d=0∨d=1:=by omega
 rcases this with rfl|rfl<;>rfl
theorem tC_y (s:St) (w:Nat) (c:Cx) (mi:Nat) (hl:Bool) (d:Nat) (hd:d<2):(tC s w c mi hl)[4+d * 2+1]? =some (.int .i64 (sYs s d)):=by
 have:d=0∨d=1:=by omega
 rcases this with rfl|rfl<;>rfl
theorem zvC (s:St) (w:Nat) (c:Cx) (mi:Nat) (hl:Bool) (d:Nat) (hd:d<2) (x:Int):(tC s w c mi hl).set (4+d * 2) (.int .i64 x)=tC (zbS s d x (sYs s d)) w c mi hl:=by
 have:d=0∨d=1:=by omega
 rcases this with rfl|rfl<;>rfl
theorem zvB (s:St) (w:Nat) (c:Cx) (mi:Nat) (hl:Bool) (d:Nat) (hd:d<2) (y:Int):(tC s w c mi hl).set (4+d * 2+1) (.int .i64 y)=tC (zbS s d (sXs s d) y) w c mi hl:=by
 have:d=0∨d=1:=by omega
 rcases this with rfl|rfl<;>rfl
theorem tC_v (s:St) (w:Nat) (c:Cx) (mi:Nat) (hl:Bool) (d:Nat) (hd:d<2):List.take 2 (List.drop (4+d * 2) (tC s w c mi hl))=[.int .i64 (sXs s d),.int .i64 (sYs s d)]:=by
 have:d=0∨d=1:=by omega
 rcases this with rfl|rfl<;>rfl
theorem ztU (s:St) (d:Nat) (x y z:Int):zbS (zbS s d x y) d x z=zbS s d x z:=by unfold zbS;split<;>rfl
theorem zoz (s:St) (d:Nat) (x y:Int):sXs (zbS s d x y) d=x:=by unfold zbS sXs;split<;>rfl
theorem zoy (s:St) (d:Nat) (x y:Int):sYs (zbS s d x y) d=y:=by unfold zbS sYs;split<;>rfl
theorem zui (m:Mb) (d k:Nat) (hd:d<2) (hk:k<2) (x:Int):(mbc m).set (13+d * 2+k) (.int .i64 x)=mbc (zei m d k x):=by
 have h1:d=0∨d=1:=by omega
 have h2:k=0∨k=1:=by omega
 rcases h1 with rfl|rfl<;>rcases h2 with rfl|rfl<;>rfl
theorem zug (m:Mb) (d k:Nat) (hd:d<2) (hk:k<2) (x y:Int):List.take (5+d * 4+k * 2) (mbc m)++ .int .i64 x:: .int .i64 y::List.drop (5+d * 4+k * 2+(1+1)) (mbc m)=mbc (zdR m d k x y):=by
 have h1:d=0∨d=1:=by omega
 have h2:k=0∨k=1:=by omega
 rcases h1 with rfl|rfl<;>rcases h2 with rfl|rfl<;>rfl
theorem zoA (m:Mb) (d k:Nat) (x:Int):(zei m d k x).lv=m.lv:=by unfold zei;split<;>split<;>rfl
def zm4 (H:za) (i:Nat) (p:List UInt8) (n:Nat) (X:za) (c:Cx) (hl:Bool) (x:Rr (Mb×St)):PV→za→Prop:=fun v H'=>
 match x with
 | .ok y a=>v= .int .i64 0∧H'=tG H i p n a X (mB y.1) (tB y.2 i c (H.length+4) hl)
 | .er e _=>v=ecd e∧∃ a m s,a≤n∧m.lv.length=384∧H'=tG H i p n a X (mB m) (tB s i c (H.length+4) hl)
section
variable (H:za) (i:Nat) (p:List UInt8) (n:Nat) (X:za) (c:Cx) (hl:Bool) (hi:i<H.length) (hX:X.length=4) (hn:n≤8 * p.length) (hp:p.length≤100000000)
include hi hX hn hp
set_option maxHeartbeats 2000000 in
theorem zqY (m:Mb) (s:St) (d k a:Nat) (hd:d<2) (hk:k<2) (hml:m.lv.length=384) (hs:vrS s) (ha:a≤n):CallEx Tryz.prog 262 [.ptr (H.length+5) 0 0,.int .i64 (d:Int),.int .i64 (k:Int)] (tG H i p n a X (mB m) (tB s i c (H.length+4) hl)) (zm4 H i p n X c hl (zdY c p n m s d k a)):=by
 have g5:=fun a B4 B5=>zhY H i p n a X B4 B5 hX
 have g4:=fun a B4 B5=>zjf H i p n a X B4 B5 hX
 have s5:=fun a B4 B5 B=>zgi H i p n a X B4 B5 hX B
 have s4:=fun a B4 B5 B=>zgj H i p n a X B4 B5 hX B
 have gi:=fun a B4 B5=>zkr H i p n a X B4 B5 hi
 have si:=fun a B4 B5 a'=>zgh H i p n a X B4 B5 hi a'
 have hlen:=zT m hml
 have se:=zky c m (H.length+4) _ (g4 a (mB m) (tB s i c (H.length+4) hl))
 have tx:=fun s=>tC_x s i c (H.length+4) hl d hd
 have ty:=fun s=>tC_y s i c (H.length+4) hl d hd
 have tsx:=fun s=>zvC s i c (H.length+4) hl d hd
 have tsy:=fun s=>zvB s i c (H.length+4) hl d hd
 have tv:=fun s=>tC_v s i c (H.length+4) hl d hd
 generalize hres:zdY c p n m s d k a=res
 unfold zdY at hres
 refine CallEx.body (F0:=[(0,.ptr (H.length+5) 0 0),(1,.int .i64 (d:Int)),(2,.int .i64 (k:Int))]) Tryz.func262 rfl Tryz.ntmps262 Tryz.results262 rfl (by kernel_rfl) rfl ?_
 refine PW.e ?_
 (repeat refine PW.seq ?_);refine PW.drawt [] [] mix (by kernel_rfl) fun K hK=> ?_;simp (maxSteps:=3000000) (disch:=omega) only [go_sem,↓reduceIte,reduceCtorEq,g5,zF,zG,zn9,zam,zad,Nat.reduceAdd,Nat.reduceLeDiff]
 refine VCj.now (se) rfl ?_;simp (maxSteps:=3000000) (disch:=omega) only [go_sem,↓reduceIte,reduceCtorEq];refine hK _ _ ?_;clear hK K
 suffices hrest:∀ (m:Mb) (a:Nat),m.lv.length=384→a≤n→((tkD p n (sXs s d) 63 a).bind fun x a2=>(tkD p n (sYs s d) 63 a2).bind fun y a3=>.ok (zdR m d k x y,zbS s d x y) a3)=res→
   PW Tryz.prog _ _ [(0,.ptr (H.length+5) 0 0),(1,.int .i64 (d:Int)),(2,.int .i64 (k:Int))] (tG H i p n a X (mB m) (tB s i c (H.length+4) hl)) _ by
  cases hsel:(m.fp||fcx c) with
  | false=>
   rw [hsel,if_neg (by decide),Rr.bind_ok] at hres
   refine PW.us ?_
   exact PW.at [0,1,2] (hrest m a hml ha hres) rfl rfl
  | true=>
   rw [hsel,if_pos rfl] at hres
   refine PW.t ?_
   by_cases han:a<n
   ·have hf:tkF p n a= .ok (decide (zbA p a=1)) (a+1):=by unfold tkF;rw [if_pos han]
    rw [hf,Rr.bind_ok,Rr.bind_ok] at hres
    have hub:=zfH p a
    have t:=zdh i p n a 1 _ (gi a (mB m) (tB s i c (H.length+4) hl)) (by omega) hn hp (by omega)
    rw [si,show vl p a 1=zbA p a by simp [vl]] at t
    have hbn:((decide (zbA p a=1)).toNat:Int)=(zbA p a:Int):=by
     have:zbA p a=0∨zbA p a=1:=by omega
     rcases this with e|e<;>rw [e]<;>rfl
    rw [hbn] at hres
    have hst:=zui m d k hd hk (zbA p a:Int)
    refine PW.f (fun K k=>by simp (maxSteps:=3000000) (disch:=omega) only [go_sem,↓reduceIte,reduceCtorEq,g5,zF,zG,zcq];refine VCx.call (t) rfl ?_;simp (maxSteps:=3000000) (disch:=omega) only [go_sem,↓reduceIte,reduceCtorEq,g5,zF,zG,zcq];exact k) ?_
    refine PW.e ?_
    refine PW.us ?_
    refine PW.f (fun K k=>by simp (maxSteps:=3000000) (disch:=omega) only [go_sem,↓reduceIte,reduceCtorEq,g5,g4,s4,zF,zG,zam,zau,zay,zbW,hlen,hst,zaY];exact k) ?_
    exact PW.at [0,1,2] (hrest _ (a+1) (by rw [zoA];exact hml) (by omega) hres) rfl rfl
   ·have hf:tkF p n a= .er 3 a:=by unfold tkF;rw [if_neg han]
    rw [hf,Rr.bind_er,Rr.bind_er] at hres
    have t:=zbD i p n a 1 _ (gi a (mB m) (tB s i c (H.length+4) hl)) (by omega) (by omega) (by omega) (by omega)
    refine PW.f (fun K k=>by simp (maxSteps:=3000000) (disch:=omega) only [go_sem,↓reduceIte,reduceCtorEq,g5,zF,zG,zcq];refine VCx.call (t) rfl ?_;simp (maxSteps:=3000000) (disch:=omega) only [go_sem,↓reduceIte,reduceCtorEq,g5,zF,zG,zcq];exact k) ?_
    refine PW.e ?_
    refine PW.t ?_
    refine PW.e ?_
    refine PW.ret ⟨_,rfl,.inl ?_⟩
    rw [←hres]
    exact ⟨rfl,a,m,s,ha,hml,rfl⟩
 clear hres ha hml hlen se
 intro m a hml ha hres
 have hlen:=zT m hml
 have hsd:=hs d
 refine PW.f (fun K k=>by simp (maxSteps:=3000000) (disch:=omega) only [go_sem,↓reduceIte,reduceCtorEq,g5,zF];exact k) ?_
 have t1:=zgg H i p n a X (mB m) c s hl hi hX ha hn hp (sXs s d) 63 (by omega) (by omega)
 cases h1:tkD p n (sXs s d) 63 a with
 | er e a1=>
  have hb:=zn0 h1 ha
  rw [h1] at t1 hres
  simp only [rvS,Rr.at,Rr.bind] at t1 hres
  have d0:((e:Int)+1 !=0)=true:=by simp;omega
  refine PW.f (fun K k=>by simp (maxSteps:=3000000) (disch:=omega) only [go_sem,↓reduceIte,reduceCtorEq,g5,zF,zG,tx,s5,tsx,zdZ,zb4,zad];refine VCx.call (t1) rfl ?_;simp (maxSteps:=3000000) (disch:=omega) only [go_sem,↓reduceIte,reduceCtorEq,g5,zF,zG,tx,s5,tsx,zdZ,zb4,zad];exact k) ?_
  refine PW.f (fun K k=>by simp (maxSteps:=3000000) (disch:=omega) only [go_sem,↓reduceIte,reduceCtorEq,d0];exact k) ?_
  refine PW.t ?_
  refine PW.e ?_
  refine PW.ret ⟨_,rfl,.inl ?_⟩
  rw [←hres]
  exact ⟨rfl,a1,m,_,hb.2.1,hml,rfl⟩
 | ok x a1=>
  have hb:=zhq h1 ha
  rw [h1] at t1 hres
  simp only [rvS,Rr.at] at t1
  rw [Rr.bind_ok] at hres
  refine PW.f (fun K k=>by simp (maxSteps:=3000000) (disch:=omega) only [go_sem,↓reduceIte,reduceCtorEq,g5,zF,zG,tx,s5,tsx,zdZ,zb4,zad];refine VCx.call (t1) rfl ?_;simp (maxSteps:=3000000) (disch:=omega) only [go_sem,↓reduceIte,reduceCtorEq,g5,zF,zG,tx,s5,tsx,zdZ,zb4,zad];exact k) ?_
  refine PW.e ?_
  refine PW.us ?_
  have t2:=zgg H i p n a1 X (mB m) c (zbS s d x (sYs s d)) hl hi hX hb.2.2 hn hp (sYs s d) 63 (by omega) (by omega)
  have ty2:=ty (zbS s d x (sYs s d))
  rw [zoy] at ty2
  have tsy2:=tsy (zbS s d x (sYs s d))
  rw [zoz] at tsy2
  simp only [ztU] at tsy2
  cases h2:tkD p n (sYs s d) 63 a1 with
  | er e a2=>
   have hb2:=zn0 h2 hb.2.2
   rw [h2] at t2 hres
   simp only [rvS,Rr.at,Rr.bind] at t2 hres
   have d0:((e:Int)+1 !=0)=true:=by simp;omega
   refine PW.f (fun K k=>by simp (maxSteps:=3000000) (disch:=omega) only [go_sem,↓reduceIte,reduceCtorEq,g5,zF,zG,ty2,s5,tsy2,zdZ,zb4,zad];refine VCx.call (t2) rfl ?_;simp (maxSteps:=3000000) (disch:=omega) only [go_sem,↓reduceIte,reduceCtorEq,g5,zF,zG,ty2,s5,tsy2,zdZ,zb4,zad];exact k) ?_
   refine PW.f (fun K k=>by simp (maxSteps:=3000000) (disch:=omega) only [go_sem,↓reduceIte,reduceCtorEq,d0];exact k) ?_
   refine PW.t ?_
   refine PW.e ?_
   refine PW.ret ⟨_,rfl,.inl ?_⟩
   rw [←hres]
   exact ⟨rfl,a2,m,_,hb2.2.1,hml,rfl⟩
  | ok y a2=>
   have hb2:=zhq h2 hb.2.2
   rw [h2] at t2 hres
   simp only [rvS,Rr.at] at t2
   rw [Rr.bind_ok] at hres
   have tv2:=tv (zbS s d x y)
   rw [zoz,zoy] at tv2
   have hsv:=zug m d k hd hk x y
   refine PW.f (fun K k=>by simp (maxSteps:=3000000) (disch:=omega) only [go_sem,↓reduceIte,reduceCtorEq,g5,zF,zG,ty2,s5,tsy2,zdZ,zb4,zad];refine VCx.call (t2) rfl ?_;simp (maxSteps:=3000000) (disch:=omega) only [go_sem,↓reduceIte,reduceCtorEq,g5,zF,zG,ty2,s5,tsy2,zdZ,zb4,zad];exact k) ?_
   refine PW.e ?_
   refine PW.us ?_
   (repeat refine PW.seq ?_);refine PW.drawi [H.length+4] [(81,[0]),(87,[0]),(88,[0]),(89,[0]),(90,[0])] [] [] mix (by kernel_rfl) (by simp<;>omega) fun K hK=> ?_
   simp (maxSteps:=3000000) (disch:=omega) only [go_sem,↓reduceIte,reduceCtorEq,g5,g4,s4,zF,zG,zam,zad,tv2,zau,zay,zbW,hlen,hsv,zaY]
   refine hK _ _ ?_;clear hK K
   refine PW.e ?_
   refine PW.ret ⟨_,rfl,.inl ?_⟩
   rw [←hres]
   exact ⟨rfl,rfl⟩
end
end Go.Proofs.YtjgmdlcjbgiekaaGreatDoor.Sc
namespace Go.Proofs.YtjgmdlcjbgiekaaGreatDoor.Sc
set_option linter.all false
open Pm Ty Go.RowKit
theorem zeP (L:za) (ti i:Nat) (p:List UInt8) (n a:Nat) (c:Cx) (s:St) (mi:Nat) (hl:Bool) (hT:L[ti]? =some (tB s i c mi hl)) (hR:L[i]? =some (rA p n a)) (ha:a≤n) (hn:n≤8 * p.length) (hp:p.length≤100000000):
  CallOk Tryz.prog 260 [.ptr ti 0 0] L (rvF (tkF p n a)) (L.set i (rA p n (tkF p n a).at)):=by
 have hself:=za9 hR
 cases hf:tkF p n a with
 | ok b a1=>
  obtain ⟨rfl,h2,rfl⟩:=zfm hf
  have t:=zdh i p n a 1 _ hR (by omega) hn hp (by omega)
  rw [show vl p a 1=zbA p a by simp [vl]] at t
  have e1:((zbA p a:Int)==1)=decide (zbA p a=1):=by
   rw [Bool.eq_iff_iff];simp;omega
  simp only [rvF,Rr.at]
  generalize L.set i (rA p n (a+1))=Hz at *
  refine CallOk.body (F0:=[(0,.ptr ti 0 0)]) Tryz.func260 rfl Tryz.ntmps260 Tryz.results260 rfl (by kernel_rfl) rfl ?_
  refine PW.e ?_
  refine PW.f (fun K k=>by simp (maxSteps:=3000000) (disch:=omega) only [go_sem,↓reduceIte,reduceCtorEq,hT,zF,zG,zcq];refine VCx.call (t) rfl ?_;simp (maxSteps:=3000000) (disch:=omega) only [go_sem,↓reduceIte,reduceCtorEq,hT,zF,zG,zcq];exact k) ?_
  refine PW.f (fun K k=>by simp (maxSteps:=3000000) (disch:=omega) only [go_sem,↓reduceIte,reduceCtorEq,e1];exact k) ?_
  exact PW.ret ⟨_,rfl,Fin.now⟩
 | er e a1=>
  obtain ⟨rfl,rfl,h2⟩:=zlG hf
  have t:=zbD i p n a1 1 _ hR (by omega) (by omega) (by omega) (by omega)
  simp only [rvF,Rr.at,hself]
  refine CallOk.body (F0:=[(0,.ptr ti 0 0)]) Tryz.func260 rfl Tryz.ntmps260 Tryz.results260 rfl (by kernel_rfl) rfl ?_
  refine PW.e ?_
  refine PW.f (fun K k=>by simp (maxSteps:=3000000) (disch:=omega) only [go_sem,↓reduceIte,reduceCtorEq,hT,zF,zG,zcq];refine VCx.call (t) rfl ?_;simp (maxSteps:=3000000) (disch:=omega) only [go_sem,↓reduceIte,reduceCtorEq,hT,zF,zG,zcq];exact k) ?_
  refine PW.e ?_
  exact PW.ret ⟨_,rfl,Fin.now⟩
theorem zpv (m:Mb) (b:Bool):(mbc m).set 3 (.bool b)=mbc { m with fp:=b }:=rfl
theorem zpy (m:Mb) (b:Bool):(mbc m).set 4 (.bool b)=mbc { m with fd:=b }:=rfl
theorem zgP (m:Mb):(mbc m)[0]? =some (.int .i64 m.k):=rfl
theorem zue (m:Mb):List.take 2 (List.drop 1 (mbc m))=[.bool m.ua,.bool m.ub]:=rfl
def SameU (m m':Mb):Prop:=m'.lv=m.lv∧m'.ua=m.ua∧m'.ub=m.ub∧m'.fp=m.fp∧m'.k=m.k
theorem SameU.refl (m:Mb):SameU m m:=⟨rfl,rfl,rfl,rfl,rfl⟩
theorem SameU.trans {a b c:Mb} (h:SameU a b) (k:SameU b c):SameU a c:=⟨k.1.trans h.1,k.2.1.trans h.2.1,k.2.2.1.trans h.2.2.1,k.2.2.2.1.trans h.2.2.2.1,k.2.2.2.2.trans h.2.2.2.2⟩
theorem zkx (m:Mb) (d k:Nat) (x:Int):SameU m (zei m d k x):=by unfold zei;split<;>split<;>exact ⟨rfl,rfl,rfl,rfl,rfl⟩
theorem zkw (m:Mb) (d k:Nat) (x y:Int):SameU m (zdR m d k x y):=by unfold zdR;split<;>split<;>exact ⟨rfl,rfl,rfl,rfl,rfl⟩
theorem znN {s:St} (hs:vrS s) (d:Nat) {x y:Int} (hx: -63≤x∧x≤63) (hy: -63≤y∧y≤63):vrS (zbS s d x y):=fun e=>by
 have h0:=hs 0
 have h1:=hs 1
 have he:=hs e
 unfold zbS
 split
 ·unfold sXs sYs;dsimp only
  split
  ·exact ⟨hx,hy⟩
  ·exact h1
 ·unfold sXs sYs;dsimp only
  split
  ·exact h0
  ·exact ⟨hx,hy⟩
theorem znW {c:Cx} {p:List UInt8} {n:Nat} {m:Mb} {s:St} {d k a:Nat} {y:Mb×St} {a1:Nat} (h:zdY c p n m s d k a= .ok y a1) (ha:a≤n) (hs:vrS s):a1≤n∧SameU m y.1∧vrS y.2:=by
 unfold zdY at h
 suffices hr:∀ (m':Mb) (a':Nat),SameU m m'→a'≤n→((tkD p n (sXs s d) 63 a').bind fun x a2=>(tkD p n (sYs s d) 63 a2).bind fun y a3=>.ok (zdR m' d k x y,zbS s d x y) a3)= .ok y a1→a1≤n∧SameU m y.1∧vrS y.2 by
  split at h
  ·cases hf:tkF p n a with
   | er e a2=>rw [hf] at h;cases h
   | ok b a2=>
    have:=zfm hf
    rw [hf,Rr.bind_ok,Rr.bind_ok] at h
    exact hr _ _ (zkx m d k _) (by omega) h
  ·rw [Rr.bind_ok] at h
   exact hr _ _ (.refl m) ha h
 intro m' a' hm' ha' h
 cases h1:tkD p n (sXs s d) 63 a' with
 | er e a2=>rw [h1] at h;cases h
 | ok x a2=>
  have b1:=zhq h1 ha'
  rw [h1,Rr.bind_ok] at h
  cases h2:tkD p n (sYs s d) 63 a2 with
  | er e a3=>rw [h2] at h;cases h
  | ok z a3=>
   have b2:=zhq h2 b1.2.2
   rw [h2,Rr.bind_ok] at h
   injection h with e1 e2
   subst e1 e2
   exact ⟨b2.2.2,hm'.trans (zkw _ _ _ _ _),znN hs d (by omega) (by omega)⟩
theorem znV {c:Cx} {p:List UInt8} {n d:Nat}:∀ (r k:Nat) (m:Mb) (s:St) (a:Nat) {y:Mb×St} {a1:Nat},zbQ c p n d r k m s a= .ok y a1→a≤n→vrS s→a1≤n∧SameU m y.1∧vrS y.2
 | 0,k,m,s,a,y,a1,h,ha,hs=>by
  simp only [zbQ] at h
  injection h with e1 e2
  subst e1 e2
  exact ⟨ha,.refl m,hs⟩
 | r+1,k,m,s,a,y,a1,h,ha,hs=>by
  simp only [zbQ] at h
  cases h1:zdY c p n m s d k a with
  | er e a2=>rw [h1] at h;cases h
  | ok x a2=>
   obtain ⟨b1,b2,b3⟩:=znW h1 ha hs
   rw [h1,Rr.bind_ok] at h
   obtain ⟨c1,c2,c3⟩:=znV r (k+1) x.1 x.2 a2 h b1 b3
   exact ⟨c1,b2.trans c2,c3⟩
theorem ztK {c:Cx} {p:List UInt8} {n d:Nat} {m:Mb} {s:St} {a:Nat} {y:Mb×St} {a1:Nat} (h:zeN c p n m s d a= .ok y a1) (ha:a≤n) (hs:vrS s):a1≤n∧SameU m y.1∧vrS y.2:=by
 unfold zeN at h
 split at h
 ·exact znV _ _ _ _ _ h ha hs
 ·injection h with e1 e2
  subst e1 e2
  exact ⟨ha,.refl m,hs⟩
section
variable (H:za) (i:Nat) (p:List UInt8) (n:Nat) (X:za) (c:Cx) (hl:Bool) (hi:i<H.length) (hX:X.length=4) (hn:n≤8 * p.length) (hp:p.length≤100000000)
include hi hX hn hp
set_option maxHeartbeats 4000000 in
theorem znR (m:Mb) (s:St) (a:Nat) (hml:m.lv.length=384) (hs:vrS s) (ha:a≤n):CallEx Tryz.prog 185 [.ptr (H.length+5) 0 0] (tG H i p n a X (mB m) (tB s i c (H.length+4) hl)) (zm4 H i p n X c hl (zeM c p n m s a)):=by
 have g5:=fun a B4 B5=>zhY H i p n a X B4 B5 hX
 have g4:=fun a B4 B5=>zjf H i p n a X B4 B5 hX
 have s5:=fun a B4 B5 B=>zgi H i p n a X B4 B5 hX B
 have s4:=fun a B4 B5 B=>zgj H i p n a X B4 B5 hX B
 have gi:=fun a B4 B5=>zkr H i p n a X B4 B5 hi
 have si:=fun a B4 B5 a'=>zgh H i p n a X B4 B5 hi a'
 have hlen:=zT m hml
 have bo:=fun K=>ziT c K
 generalize hres:zeM c p n m s a=res
 unfold zeM at hres
 by_cases hk:m.k=2
 rotate_left
 ·rw [if_neg hk] at hres
  have d1:decide (m.k=2)=false:=decide_eq_false hk
  have d2:(m.k !=2)=true:=by simp [hk]
  refine CallEx.body (F0:=[(0,.ptr (H.length+5) 0 0)]) Tryz.func185 rfl Tryz.ntmps185 Tryz.results185 rfl (by kernel_rfl) rfl ?_
  refine PW.e ?_
  refine PW.f (fun K k=>by simp (maxSteps:=3000000) (disch:=omega) only [go_sem,↓reduceIte,reduceCtorEq,g5,g4,zF,zG,zam,zau,zay,zgP,d2];exact k) ?_
  refine PW.t ?_
  refine PW.e ?_
  refine PW.ret ⟨_,rfl,.inl ?_⟩
  rw [←hres]
  exact ⟨rfl,rfl⟩
 rw [if_pos hk] at hres
 have d2:(m.k !=2)=false:=by simp [hk]
 refine CallEx.body (F0:=[(0,.ptr (H.length+5) 0 0)]) Tryz.func185 rfl Tryz.ntmps185 Tryz.results185 rfl (by kernel_rfl) rfl ?_
 refine PW.e ?_
 refine PW.f (fun K k=>by simp (maxSteps:=3000000) (disch:=omega) only [go_sem,↓reduceIte,reduceCtorEq,g5,g4,zF,zG,zam,zau,zay,zgP,d2];exact k) ?_
 refine PW.us ?_
 suffices hrest:∀ (m:Mb) (a:Nat),m.lv.length=384→a≤n→zda c p n 2 0 m s a=res→PW Tryz.prog _ _ [(0,.ptr (H.length+5) 0 0)] (tG H i p n a X (mB m) (tB s i c (H.length+4) hl)) _ by
  refine PW.f (fun K k=>by simp (maxSteps:=3000000) (disch:=omega) only [go_sem,↓reduceIte,reduceCtorEq,g5,zF,zG,zn9,zad,Nat.reduceAdd,Nat.reduceLeDiff];refine VCx.call (bo _) rfl ?_;simp (maxSteps:=3000000) (disch:=omega) only [go_sem,↓reduceIte,reduceCtorEq,g5,zF,zG,zn9,zad,Nat.reduceAdd,Nat.reduceLeDiff];exact k) ?_
  cases hbv:bcx c with
  | false=>
   rw [hbv,if_neg (by decide),Rr.bind_ok] at hres
   refine PW.us ?_
   exact PW.at [0] (hrest m a hml ha hres) rfl rfl
  | true=>
   rw [hbv,if_pos rfl] at hres
   refine PW.t ?_
   (repeat refine PW.seq ?_);refine PW.drawi [i,H.length+4] [(24,[1]),(25,[0]),(29,[1]),(30,[1])] [] [] mix (by kernel_rfl) (by simp<;>omega) fun K hK=> ?_
   simp (maxSteps:=3000000) (disch:=omega) only [go_sem,↓reduceIte,reduceCtorEq,g5,zF,zG,zam]
   refine VCj.wr1 (gi a (mB m) (tB s i c (H.length+4) hl)) (fun L hL hG=>zeP L (H.length+5) i p n a c s (H.length+4) hl ((hG.out _ (by simp;omega)).trans (g5 _ _ _)) hL ha hn hp) (by simp (maxSteps:=3000000) (disch:=omega) only [go_sem,↓reduceIte,reduceCtorEq]) (.inl rfl) rfl ?_
   rw [si]
   cases hf:tkF p n a with
   | ok b a1=>
    obtain ⟨rfl,h2,_⟩:=zfm hf
    rw [hf,Rr.bind_ok,Rr.bind_ok] at hres
    simp only [rvF,Rr.at]
    simp (maxSteps:=3000000) (disch:=omega) only [go_sem,↓reduceIte,reduceCtorEq,g4,s4,zau,zay,zbW,hlen,zpv,zaY]
    refine hK _ _ ?_;clear hK K
    refine PW.e ?_
    refine PW.us ?_
    exact PW.at [0] (hrest { m with fp:=b } (a+1) hml (by omega) hres) rfl rfl
   | er e a1=>
    obtain ⟨rfl,rfl,h2⟩:=zlG hf
    rw [hf,Rr.bind_er,Rr.bind_er] at hres
    simp only [rvF,Rr.at]
    simp (maxSteps:=3000000) (disch:=omega) only [go_sem,↓reduceIte,reduceCtorEq,g4,s4,zau,zay,zbW,hlen,zpv,zaY]
    refine hK _ _ ?_;clear hK K
    refine PW.e ?_
    refine PW.t ?_
    refine PW.e ?_
    refine PW.ret ⟨_,rfl,.inl ?_⟩
    rw [←hres]
    exact ⟨rfl,a1,{ m with fp:=false },s,ha,hml,rfl⟩
 clear hres ha hml hlen
 intro m a hml ha hres
 have ve:=fun m1 s1 a1=>zqW m1 (H.length+4) _ (g4 a1 (mB m1) (tB s1 i c (H.length+4) hl))
 have vc:=fun m1 s1 d k a1 hd hk hml hs ha=>zqY H i p n X c hl hi hX hn hp m1 s1 d k a1 hd hk hml hs ha
 have hlen:=zT m hml
 refine PW.f (fun K k=>by simp (maxSteps:=3000000) (disch:=omega) only [go_sem,↓reduceIte,reduceCtorEq,g5,g4,zF,zG,zam,zau,zay,zue,hlen,Nat.reduceAdd,Nat.reduceLeDiff];exact k) ?_
 (repeat refine PW.seq ?_);refine PW.block (PW.loop ?_)
 suffices hl1:∀ (d:Nat) (m1:Mb) (s1:St) (a1:Nat),d≤2→SameU m m1→vrS s1→a1≤n→zda c p n (2 - d) d m1 s1 a1=res→PL Tryz.prog _ _ [(0,.ptr (H.length+5) 0 0),(40,.agg [.bool m.ua,.bool m.ub]),(41,.int .i64 (d:Int))] (tG H i p n a1 X (mB m1) (tB s1 i c (H.length+4) hl)) _ by
  exact PL.at [0,40,41] (hl1 0 m s a (by omega) (.refl m) hs ha hres) rfl rfl
 clear hres ha hlen hs
 intro d m1 s1 a1 hd hm1 hs1 ha1 hres
 induction hdd:2 - d using Nat.strongRecOn generalizing d m1 s1 a1 with
 | _ dd ih=>
  refine PL.round ?_;refine PW.e ?_
  (repeat refine PW.seq ?_);refine PW.cond (t:=_) rfl (fun h=> ?_) (fun h=> ?_)
  rotate_left
  ·have h6:d=2:=by have:=of_decide_eq_false h;omega
   subst h6
   refine PW.exit ?_
   simp only [Nat.sub_self,zda] at hres
   refine PW.e ?_
   refine PW.ret ⟨_,rfl,.inl ?_⟩
   rw [←hres]
   exact ⟨rfl,rfl⟩
  have h6:d<2:=by have:=of_decide_eq_true h;omega
  obtain ⟨n',hn'⟩:∃ n',2 - d=n'+1:=⟨1 - d,by omega⟩
  rw [hn',zda] at hres
  have hnx:=fun m1 s1 a1=>ih (2 - (d+1)) (by omega) (d+1) m1 s1 a1 (by omega)
  rw [show 2 - (d+1)=n' by omega] at hnx
  have hus:([.bool m.ua,.bool m.ub]:List PV)[d]? =some (.bool (usd m1 d)):=by
   have:d=0∨d=1:=by omega
   unfold usd
   rw [hm1.2.1,hm1.2.2.1]
   rcases this with rfl|rfl<;>rfl
  have hdr:zeN c p n m1 s1 d a1=if usd m1 d then zbQ c p n d (nvM m1) 0 m1 s1 a1 else .ok (m1,s1) a1:=rfl
  rw [hdr] at hres
  refine PW.skip ?_;(repeat refine PW.seq ?_);refine PW.block ?_
  refine PW.f (fun K k=>by simp (maxSteps:=3000000) (disch:=omega) only [go_sem,↓reduceIte,reduceCtorEq,hus];exact k) ?_
  refine PW.e ?_
  cases hu:usd m1 d with
  | false=>
   rw [hu,if_neg (by decide),Rr.bind_ok] at hres
   refine PW.t ?_
   refine PW.exit ?_
   refine PW.e ?_
   exact PL.at [0,40,41] (hnx m1 s1 a1 hm1 hs1 ha1 hres rfl) rfl rfl
  | true=>
   rw [hu,if_pos rfl] at hres
   refine PW.us ?_
   have vo:=ve m1 s1 a1
   have env:(if m1.fp then (2:Int) else 1)=((nvM m:Nat):Int):=by unfold nvM;rw [hm1.2.2.2.1];cases m.fp<;>rfl
   have env2:nvM m1=nvM m:=by unfold nvM;rw [hm1.2.2.2.1]
   rw [env] at vo
   rw [env2] at hres
   refine PW.f (fun K k=>by simp (maxSteps:=3000000) (disch:=omega) only [go_sem,↓reduceIte,reduceCtorEq,g5,zF,zG,zam];refine VCx.call (vo) rfl ?_;simp (maxSteps:=3000000) (disch:=omega) only [go_sem,↓reduceIte,reduceCtorEq,g5,zF,zG,zam];exact k) ?_
   (repeat refine PW.seq ?_);refine PW.block (PW.loop ?_)
   suffices hl2:∀ (k:Nat) (m2:Mb) (s2:St) (a2:Nat),k≤nvM m→SameU m m2→vrS s2→a2≤n→((zbQ c p n d (nvM m - k) k m2 s2 a2).bind fun x a1=>zda c p n n' (d+1) x.1 x.2 a1)=res→
     PL Tryz.prog _ _ [(0,.ptr (H.length+5) 0 0),(3,.int .i64 (d:Int)),(40,.agg [.bool m.ua,.bool m.ub]),(41,.int .i64 (d:Int)),(51,.int .i64 (nvM m:Int)),(52,.int .i64 (k:Int))] (tG H i p n a2 X (mB m2) (tB s2 i c (H.length+4) hl)) _ by
    exact PL.at [0,3,40,41,51,52] (hl2 0 m1 s1 a1 (by omega) hm1 hs1 ha1 hres) rfl rfl
   clear ih hres hs1 ha1 vo hdr hu hus env env2 hm1
   have hnv:=zwh m
   intro k m2 s2 a2 hk2 hm2 hs2 ha2 hres
   induction hkk:nvM m - k using Nat.strongRecOn generalizing k m2 s2 a2 with
   | _ kk ih2=>
    refine PL.round ?_;refine PW.e ?_
    (repeat refine PW.seq ?_);refine PW.cond (t:=_) rfl (fun h=> ?_) (fun h=> ?_)
    rotate_left
    ·have h7:k=nvM m:=by have:=of_decide_eq_false h;omega
     subst h7
     refine PW.exit ?_
     simp only [Nat.sub_self,zbQ,Rr.bind_ok] at hres
     refine PW.e ?_
     exact PL.at [0,40,41] (hnx m2 s2 a2 hm2 hs2 ha2 hres rfl) rfl rfl
    have h7:k<nvM m:=by have:=of_decide_eq_true h;omega
    obtain ⟨n2,hn2⟩:∃ n2,nvM m - k=n2+1:=⟨nvM m - k - 1,by omega⟩
    rw [hn2,zbQ,Rr.bind_bind] at hres
    have hnx2:=fun m1 s1 a1=>ih2 (nvM m - (k+1)) (by omega) (k+1) m1 s1 a1 (by omega)
    rw [show nvM m - (k+1)=n2 by omega] at hnx2
    clear ih2
    have v1:=vc m2 s2 d k a2 h6 (by omega) (by rw [hm2.1];exact hml) hs2 ha2
    refine PW.skip ?_;(repeat refine PW.seq ?_);refine PW.block ?_
    refine PW.e ?_
    (repeat refine PW.seq ?_);refine PW.rg rfl fun K hK=> ?_;simp (maxSteps:=3000000) (disch:=omega) only [go_sem,↓reduceIte,reduceCtorEq]
    refine VCx.callR v1 rfl fun v H' hR=> ?_
    cases hv:zdY c p n m2 s2 d k a2 with
    | er e a3=>
     rw [hv] at hR hres
     obtain ⟨rfl,a4,m4,s4',h1,h2,rfl⟩:=hR
     rw [Rr.bind_er] at hres
     have d0:((e:Int)+1 !=0)=true:=by simp;omega
     simp (maxSteps:=3000000) (disch:=omega) only [go_sem,↓reduceIte,reduceCtorEq,ecd];refine hK _ _ ?_;clear hK K
     refine PW.f (fun K k=>by simp (maxSteps:=3000000) (disch:=omega) only [go_sem,↓reduceIte,reduceCtorEq,d0];exact k) ?_
     refine PW.t ?_
     refine PW.e ?_
     refine PW.ret ⟨_,rfl,.inl ?_⟩
     rw [←hres]
     exact ⟨rfl,a4,m4,s4',h1,h2,rfl⟩
    | ok y a3=>
     obtain ⟨b1,b2,b3⟩:=znW hv ha2 hs2
     rw [hv] at hR hres
     obtain ⟨rfl,rfl⟩:=hR
     rw [Rr.bind_ok] at hres
     simp (maxSteps:=3000000) (disch:=omega) only [go_sem,↓reduceIte,reduceCtorEq];refine hK _ _ ?_;clear hK K
     refine PW.e ?_
     refine PW.us ?_
     refine PW.e ?_
     exact PL.at [0,3,40,41,51,52] (hnx2 y.1 y.2 a3 (hm2.trans b2) b3 b1 hres rfl) rfl rfl
end
end Go.Proofs.YtjgmdlcjbgiekaaGreatDoor.Sc
namespace Go.Proofs.YtjgmdlcjbgiekaaGreatDoor.Sc
set_option linter.all false
open Pm Ty Go.RowKit
theorem zpw (m:Mb) (x:Int):(mbc m).set 17 (.int .i64 x)=mbc { m with dl:=x }:=rfl
theorem zwq (m:Mb):(mbc m)[17]? =some (.int .i64 m.dl):=rfl
theorem ztL (s:St) (w:Nat) (c:Cx) (mi:Nat) (hl:Bool):(tC s w c mi hl)[0]? =some (.int .i64 s.q):=rfl
theorem zvD (s:St) (w:Nat) (c:Cx) (mi:Nat) (hl:Bool) (x:Int):(tC s w c mi hl).set 0 (.int .i64 x)=tC { s with q:=x } w c mi hl:=rfl
theorem zuj (m:Mb) (n:Nat) (b:Bool) (hn:n<6):(mbc m).set (18+n) (.bool b)=mbc (zc4 m n b):=by
 have:n=0∨n=1∨n=2∨n=3∨n=4∨n=5:=by omega
 rcases this with rfl|rfl|rfl|rfl|rfl|rfl<;>rfl
theorem zgp (m:Mb) (n:Nat) (b:Bool):(zc4 m n b).lv=m.lv:=by
 unfold zc4
 repeat' split
 all_goals rfl
theorem zpB (m:Mb):List.take 6 (List.drop 18 (mbc m))=fs (cdl m):=rfl
theorem zwH (a b c d e f:Bool):zdm Tryz.prog .eql 150 (.agg [.bool a,.bool b,.bool c,.bool d,.bool e,.bool f]) (.agg [.bool false,.bool false,.bool false,.bool false,.bool false,.bool false])=some (.bool ((a==false)&&((b==false)&&((c==false)&&((d==false)&&((e==false)&&((f==false)&&true))))))):=by kernel_rfl
theorem zwI (m:Mb):zdm Tryz.prog .eql 150 (.agg (fs (cdl m))) (.agg [.bool false,.bool false,.bool false,.bool false,.bool false,.bool false])=some (.bool !zi0 m):=by
 have:=zwH m.ca m.cb m.cc m.cd m.ce m.cf
 rw [show fs (cdl m)=[.bool m.ca,.bool m.cb,.bool m.cc,.bool m.cd,.bool m.ce,.bool m.cf] from rfl,this]
 unfold zi0
 cases m.ca<;>cases m.cb<;>cases m.cc<;>cases m.cd<;>cases m.ce<;>cases m.cf<;>rfl
section
variable (H:za) (i:Nat) (p:List UInt8) (n:Nat) (X:za) (c:Cx) (hl:Bool) (hi:i<H.length) (hX:X.length=4) (hn:n≤8 * p.length) (hp:p.length≤100000000)
include hi hX hn hp
set_option maxHeartbeats 4000000 in
theorem zq7 (m:Mb) (s:St) (a:Nat) (hml:m.lv.length=384) (hq:1≤s.q∧s.q≤31) (ha:a≤n):CallEx Tryz.prog 186 [.ptr (H.length+5) 0 0] (tG H i p n a X (mB m) (tB s i c (H.length+4) hl)) (zm4 H i p n X c hl (zfA c p n hl m s a)):=by
 have g5:=fun a B4 B5=>zhY H i p n a X B4 B5 hX
 have g4:=fun a B4 B5=>zjf H i p n a X B4 B5 hX
 have s5:=fun a B4 B5 B=>zgi H i p n a X B4 B5 hX B
 have s4:=fun a B4 B5 B=>zgj H i p n a X B4 B5 hX B
 have gi:=fun a B4 B5=>zkr H i p n a X B4 B5 hi
 have si:=fun a B4 B5 a'=>zgh H i p n a X B4 B5 hi a'
 have hlen:=zT m hml
 have bo:=fun K=>ziT c K
 have qo:=fun x K=>zsV x K
 generalize hres:zfA c p n hl m s a=res
 unfold zfA at hres
 refine CallEx.body (F0:=[(0,.ptr (H.length+5) 0 0)]) Tryz.func186 rfl Tryz.ntmps186 Tryz.results186 rfl (by kernel_rfl) rfl ?_
 refine PW.e ?_
 cases hhl:hl with
 | false=>
  subst hhl
  rw [if_neg (by decide)] at hres
  refine PW.f (fun K k=>by simp (maxSteps:=3000000) (disch:=omega) only [go_sem,↓reduceIte,reduceCtorEq,g5,zF,zG,zjg];exact k) ?_
  refine PW.t ?_
  refine PW.e ?_
  refine PW.ret ⟨_,rfl,.inl ?_⟩
  rw [←hres]
  exact ⟨rfl,rfl⟩
 | true=>
  subst hhl
  rw [if_pos rfl] at hres
  refine PW.f (fun K k=>by simp (maxSteps:=3000000) (disch:=omega) only [go_sem,↓reduceIte,reduceCtorEq,g5,zF,zG,zjg];exact k) ?_
  refine PW.us ?_
  suffices hrest:∀ (m:Mb) (a:Nat),m.lv.length=384→a≤n→((tkS p n a).bind fun d a2=>if vqB (s.q+d) then .ok ({ m with dl:=d },{ s with q:=s.q+d }) a2 else .er 2 a2)=res→PW Tryz.prog _ _ [(0,.ptr (H.length+5) 0 0)] (tG H i p n a X (mB m) (tB s i c (H.length+4) true)) _ by
   refine PW.f (fun K k=>by simp (maxSteps:=3000000) (disch:=omega) only [go_sem,↓reduceIte,reduceCtorEq,g5,zF,zG,zn9,zad,Nat.reduceAdd,Nat.reduceLeDiff];refine VCx.call (bo _) rfl ?_;simp (maxSteps:=3000000) (disch:=omega) only [go_sem,↓reduceIte,reduceCtorEq,g5,zF,zG,zn9,zad,Nat.reduceAdd,Nat.reduceLeDiff];exact k) ?_
   cases hbv:bcx c with
   | false=>
    rw [hbv,if_neg (by decide),Rr.bind_ok] at hres
    refine PW.us ?_
    exact PW.at [0] (hrest m a hml ha hres) rfl rfl
   | true=>
    rw [hbv,if_pos rfl] at hres
    refine PW.t ?_
    (repeat refine PW.seq ?_);refine PW.drawi [i,H.length+4] [(17,[1]),(18,[0]),(22,[1]),(23,[1])] [] [] mix (by kernel_rfl) (by simp<;>omega) fun K hK=> ?_
    simp (maxSteps:=3000000) (disch:=omega) only [go_sem,↓reduceIte,reduceCtorEq,g5,zF,zG,zam]
    refine VCj.wr1 (gi a (mB m) (tB s i c (H.length+4) true)) (fun L hL hG=>zeP L (H.length+5) i p n a c s (H.length+4) true ((hG.out _ (by simp;omega)).trans (g5 _ _ _)) hL ha hn hp) (by simp (maxSteps:=3000000) (disch:=omega) only [go_sem,↓reduceIte,reduceCtorEq]) (.inl rfl) rfl ?_
    rw [si]
    cases hf:tkF p n a with
    | ok b a1=>
     obtain ⟨rfl,h2,_⟩:=zfm hf
     rw [hf,Rr.bind_ok,Rr.bind_ok] at hres
     simp only [rvF,Rr.at]
     simp (maxSteps:=3000000) (disch:=omega) only [go_sem,↓reduceIte,reduceCtorEq,g4,s4,zau,zay,zbW,hlen,zpy,zaY]
     refine hK _ _ ?_;clear hK K
     refine PW.e ?_
     refine PW.us ?_
     exact PW.at [0] (hrest { m with fd:=b } (a+1) hml (by omega) hres) rfl rfl
    | er e a1=>
     obtain ⟨rfl,rfl,h2⟩:=zlG hf
     rw [hf,Rr.bind_er,Rr.bind_er] at hres
     simp only [rvF,Rr.at]
     simp (maxSteps:=3000000) (disch:=omega) only [go_sem,↓reduceIte,reduceCtorEq,g4,s4,zau,zay,zbW,hlen,zpy,zaY]
     refine hK _ _ ?_;clear hK K
     refine PW.e ?_
     refine PW.t ?_
     refine PW.e ?_
     refine PW.ret ⟨_,rfl,.inl ?_⟩
     rw [←hres]
     exact ⟨rfl,a1,{ m with fd:=false },s,ha,hml,rfl⟩
  clear hres ha hml hlen
  intro m a hml ha hres
  have hlen:=zT m hml
  (repeat refine PW.seq ?_);refine PW.drawi [i,H.length+4] [(31,[1]),(35,[0]),(39,[1]),(40,[1])] [] [] mix (by kernel_rfl) (by simp<;>omega) fun K hK=> ?_
  simp (maxSteps:=3000000) (disch:=omega) only [go_sem,↓reduceIte,reduceCtorEq,g5,zF,zG,zam,zcq]
  refine VCj.wr1 (gi a (mB m) (tB s i c (H.length+4) true)) (fun L hL hG=>zhX i p n a L hL ha hn hp) (by simp (maxSteps:=3000000) (disch:=omega) only [go_sem,↓reduceIte,reduceCtorEq]) (.inl rfl) rfl ?_
  rw [si]
  cases h1:tkS p n a with
  | er e a1=>
   have he:=zlE h1
   rw [h1,Rr.bind_er] at hres
   simp only [rvS,Rr.at]
   have d0:((e:Int)+1 !=0)=true:=by simp;omega
   simp (maxSteps:=3000000) (disch:=omega) only [go_sem,↓reduceIte,reduceCtorEq,g4,s4,zau,zay,zbW,hlen,zpw,zaY]
   refine hK _ _ ?_;clear hK K
   refine PW.f (fun K k=>by simp (maxSteps:=3000000) (disch:=omega) only [go_sem,↓reduceIte,reduceCtorEq,d0];exact k) ?_
   refine PW.t ?_
   refine PW.e ?_
   refine PW.ret ⟨_,rfl,.inl ?_⟩
   rw [←hres]
   exact ⟨rfl,a1,{ m with dl:=0 },s,by omega,hml,rfl⟩
  | ok d a1=>
   have hb:=zec h1 ha
   rw [h1,Rr.bind_ok] at hres
   simp only [rvS,Rr.at]
   simp (maxSteps:=3000000) (disch:=omega) only [go_sem,↓reduceIte,reduceCtorEq,g4,s4,zau,zay,zbW,hlen,zpw,zaY]
   refine hK _ _ ?_;clear hK K
   refine PW.e ?_
   refine PW.us ?_
   (repeat refine PW.seq ?_);refine PW.drawt [] [] mix (by kernel_rfl) fun K hK=> ?_;simp (maxSteps:=3000000) (disch:=omega) only [go_sem,↓reduceIte,reduceCtorEq,g5,g4,s5,zF,zG,zdZ,zam,ztL,zvD,zad,zb4,zau,zay,zwq];refine hK _ _ ?_;clear hK K
   have qo1:=fun K=>qo (s.q+d) K
   cases hv:vqB (s.q+d) with
   | false=>
    rw [hv] at qo1 hres
    rw [if_neg (by decide)] at hres
    (repeat refine PW.seq ?_);refine PW.rg rfl fun K hK=> ?_;simp (maxSteps:=3000000) (disch:=omega) only [go_sem,↓reduceIte,reduceCtorEq,g5,zF,zG,ztL]
    refine VCx.call (qo1 _) rfl ?_;simp (maxSteps:=3000000) (disch:=omega) only [go_sem,↓reduceIte,reduceCtorEq];refine hK _ _ ?_;clear hK K
    refine PW.t ?_
    refine PW.e ?_
    refine PW.ret ⟨_,rfl,.inl ?_⟩
    rw [←hres]
    exact ⟨rfl,a1,{ m with dl:=d },{ s with q:=s.q+d },hb.2.2,hml,rfl⟩
   | true=>
    rw [hv] at qo1 hres
    rw [if_pos rfl] at hres
    (repeat refine PW.seq ?_);refine PW.rg rfl fun K hK=> ?_;simp (maxSteps:=3000000) (disch:=omega) only [go_sem,↓reduceIte,reduceCtorEq,g5,zF,zG,ztL]
    refine VCx.call (qo1 _) rfl ?_;simp (maxSteps:=3000000) (disch:=omega) only [go_sem,↓reduceIte,reduceCtorEq];refine hK _ _ ?_;clear hK K
    refine PW.us ?_
    refine PW.e ?_
    refine PW.ret ⟨_,rfl,.inl ?_⟩
    rw [←hres]
    exact ⟨rfl,rfl⟩
set_option maxHeartbeats 4000000 in
theorem zq6 (m:Mb) (s:St) (a:Nat) (hml:m.lv.length=384) (ha:a≤n):CallEx Tryz.prog 187 [.ptr (H.length+5) 0 0] (tG H i p n a X (mB m) (tB s i c (H.length+4) hl)) (zm4 H i p n X c hl ((zed p n hl m a).bind fun m a=>.ok (m,s) a)):=by
 have g5:=fun a B4 B5=>zhY H i p n a X B4 B5 hX
 have g4:=fun a B4 B5=>zjf H i p n a X B4 B5 hX
 have s5:=fun a B4 B5 B=>zgi H i p n a X B4 B5 hX B
 have s4:=fun a B4 B5 B=>zgj H i p n a X B4 B5 hX B
 have gi:=fun a B4 B5=>zkr H i p n a X B4 B5 hi
 have si:=fun a B4 B5 a'=>zgh H i p n a X B4 B5 hi a'
 have hlen:=fun (m:Mb) (h:m.lv.length=384)=>zT m h
 generalize hres:(zed p n hl m a).bind (fun m a=>Rr.ok (m,s) a)=res
 unfold zed at hres
 refine CallEx.body (F0:=[(0,.ptr (H.length+5) 0 0)]) Tryz.func187 rfl Tryz.ntmps187 Tryz.results187 rfl (by kernel_rfl) rfl ?_
 refine PW.e ?_
 by_cases hk:m.k=2
 rotate_left
 ·have d2:(m.k !=2)=true:=by simp [hk]
  rw [decide_eq_false hk,Bool.false_and,if_neg (by decide),Rr.bind_ok] at hres
  refine PW.f (fun K k=>by simp (maxSteps:=3000000) (disch:=omega) only [go_sem,↓reduceIte,reduceCtorEq,g5,g4,zF,zG,zam,zjg,zau,zay,zgP,d2];exact k) ?_
  refine PW.t ?_
  refine PW.e ?_
  refine PW.ret ⟨_,rfl,.inl ?_⟩
  rw [←hres]
  exact ⟨rfl,rfl⟩
 have d2:(m.k !=2)=false:=by simp [hk]
 rw [decide_eq_true hk,Bool.true_and] at hres
 cases hhl:hl with
 | false=>
  subst hhl
  rw [if_neg (by decide),Rr.bind_ok] at hres
  refine PW.f (fun K k=>by simp (maxSteps:=3000000) (disch:=omega) only [go_sem,↓reduceIte,reduceCtorEq,g5,g4,zF,zG,zam,zjg,zau,zay,zgP,d2];exact k) ?_
  refine PW.t ?_
  refine PW.e ?_
  refine PW.ret ⟨_,rfl,.inl ?_⟩
  rw [←hres]
  exact ⟨rfl,rfl⟩
 | true=>
  subst hhl
  rw [if_pos rfl] at hres
  refine PW.f (fun K k=>by simp (maxSteps:=3000000) (disch:=omega) only [go_sem,↓reduceIte,reduceCtorEq,g5,g4,zF,zG,zam,zjg,zau,zay,zgP,d2];exact k) ?_
  refine PW.us ?_
  refine PW.e ?_
  (repeat refine PW.seq ?_);refine PW.block (PW.loop ?_)
  suffices hl1:∀ (k:Nat) (m1:Mb) (a1:Nat),k≤6→m1.lv.length=384→a1≤n→((zee p n (6 - k) m1 a1).bind fun m a=>Rr.ok (m,s) a)=res→PL Tryz.prog _ _ [(0,.ptr (H.length+5) 0 0),(19,.int .i64 (k:Int))] (tG H i p n a1 X (mB m1) (tB s i c (H.length+4) true)) _ by
   exact PL.at [0,19] (hl1 0 m a (by omega) hml ha hres) rfl rfl
  clear hres hk d2 hml ha
  intro k m1 a1 hk6 hml ha hres
  induction hd:6 - k using Nat.strongRecOn generalizing k m1 a1 with
  | _ d ih=>
   refine PL.round ?_;refine PW.e ?_
   (repeat refine PW.seq ?_);refine PW.cond (t:=_) rfl (fun h=> ?_) (fun h=> ?_)
   rotate_left
   ·have h6:k=6:=by have:=of_decide_eq_false h;omega
    subst h6
    refine PW.exit ?_
    have hlm:=hlen m1 hml
    have e6:=zwI m1
    simp only [Nat.sub_self,zee] at hres
    cases hac:zi0 m1 with
    | true=>
     rw [hac,if_pos rfl,Rr.bind_ok] at hres
     rw [hac] at e6
     refine PW.f (fun K k=>by simp (maxSteps:=3000000) (disch:=omega) only [go_sem,↓reduceIte,reduceCtorEq,g5,g4,zF,zG,zam,zau,zay,zpB,hlm,↓e6,Nat.reduceAdd,Nat.reduceLeDiff];exact k) ?_
     refine PW.us ?_
     refine PW.e ?_
     refine PW.ret ⟨_,rfl,.inl ?_⟩
     rw [←hres]
     exact ⟨rfl,rfl⟩
    | false=>
     rw [hac,if_neg (by decide),Rr.bind_er] at hres
     rw [hac] at e6
     refine PW.f (fun K k=>by simp (maxSteps:=3000000) (disch:=omega) only [go_sem,↓reduceIte,reduceCtorEq,g5,g4,zF,zG,zam,zau,zay,zpB,hlm,↓e6,Nat.reduceAdd,Nat.reduceLeDiff];exact k) ?_
     refine PW.t ?_
     refine PW.e ?_
     refine PW.ret ⟨_,rfl,.inl ?_⟩
     rw [←hres]
     exact ⟨rfl,a1,m1,s,ha,hml,rfl⟩
   have h6:k<6:=by have:=of_decide_eq_true h;omega
   obtain ⟨n',hn'⟩:∃ n',6 - k=n'+1:=⟨5 - k,by omega⟩
   have hkn:5 - n'=k:=by omega
   rw [hn',zee,hkn,Rr.bind_bind] at hres
   have hnx:=fun m1 a1=>ih (6 - (k+1)) (by omega) (k+1) m1 a1 (by omega)
   rw [show 6 - (k+1)=n' by omega] at hnx
   have hlm:=hlen m1 hml
   have hst:=fun b=>zuj m1 k b h6
   refine PW.skip ?_;(repeat refine PW.seq ?_);refine PW.block ?_
   refine PW.e ?_
   (repeat refine PW.seq ?_);refine PW.drawi [i,H.length+4] [(26,[1]),(28,[0]),(32,[1]),(33,[1]),(34,[1])] [] [] mix (by kernel_rfl) (by simp<;>omega) fun K hK=> ?_
   simp (maxSteps:=3000000) (disch:=omega) only [go_sem,↓reduceIte,reduceCtorEq,g5,zF,zG,zam]
   refine VCj.wr1 (gi a1 (mB m1) (tB s i c (H.length+4) true)) (fun L hL hG=>zeP L (H.length+5) i p n a1 c s (H.length+4) true ((hG.out _ (by simp;omega)).trans (g5 _ _ _)) hL ha hn hp) (by simp (maxSteps:=3000000) (disch:=omega) only [go_sem,↓reduceIte,reduceCtorEq]) (.inl rfl) rfl ?_
   rw [si]
   cases hf:tkF p n a1 with
   | ok b a2=>
    obtain ⟨rfl,h2,_⟩:=zfm hf
    rw [hf,Rr.bind_ok] at hres
    simp only [rvF,Rr.at]
    simp (maxSteps:=3000000) (disch:=omega) only [go_sem,↓reduceIte,reduceCtorEq,g4,s4,zau,zay,zbW,hlm,hst,zaY]
    refine hK _ _ ?_;clear hK K
    refine PW.e ?_
    refine PW.us ?_
    refine PW.e ?_
    exact PL.at [0,19] (hnx (zc4 m1 k b) (a1+1) (by rw [zgp];exact hml) (by omega) hres rfl) rfl rfl
   | er e a2=>
    obtain ⟨rfl,rfl,h2⟩:=zlG hf
    rw [hf,Rr.bind_er] at hres
    simp only [rvF,Rr.at]
    simp (maxSteps:=3000000) (disch:=omega) only [go_sem,↓reduceIte,reduceCtorEq,g4,s4,zau,zay,zbW,hlm,hst,zaY]
    refine hK _ _ ?_;clear hK K
    refine PW.e ?_
    refine PW.t ?_
    refine PW.e ?_
    refine PW.ret ⟨_,rfl,.inl ?_⟩
    rw [←hres]
    exact ⟨rfl,a2,zc4 m1 k false,s,ha,by rw [zgp];exact hml,rfl⟩
end
end Go.Proofs.YtjgmdlcjbgiekaaGreatDoor.Sc
