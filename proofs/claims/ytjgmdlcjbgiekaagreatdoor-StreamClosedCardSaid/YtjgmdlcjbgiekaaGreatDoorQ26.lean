/-
  Parts of the proof, put together in one text. No condition.
-/
import Derived.Test.YtjgmdlcjbgiekaaGreatDoorQ25
namespace Go.Proofs.YtjgmdlcjbgiekaaGreatDoor.Sc
set_option linter.all false
open Pm Ty Go.RowKit
def hdM (m:Mb):List PV:=[.int .i64 m.k,.bool m.ua,.bool m.ub,.bool m.fp,.bool m.fd,.int .i64 m.va,.int .i64 m.vb,.int .i64 m.vc,.int .i64 m.vd,.int .i64 m.ve,.int .i64 m.vf,.int .i64 m.vg,.int .i64 m.vh,.int .i64 m.sa,.int .i64 m.sb,.int .i64 m.sc,.int .i64 m.sd,.int .i64 m.dl,.bool m.ca,.bool m.cb,.bool m.cc,.bool m.cd,.bool m.ce,.bool m.cf]
theorem zes (m:Mb):mbc m=hdM m++is m.lv:=rfl
theorem zdI (m:Mb):(hdM m).length=24:=rfl
theorem zuf (m:Mb) (x:Nat):List.take (24+x) (mbc m)=hdM m++is (m.lv.take x):=by
 rw [zes,List.take_append,zdI,List.take_of_length_le (by rw [zdI];omega),show 24+x - 24=x by omega,zdG]
theorem zpA (m:Mb) (x:Nat):List.drop (24+x) (mbc m)=is (m.lv.drop x):=by
 rw [zes,List.drop_append,zdI,List.drop_of_length_le (by rw [zdI];omega),show 24+x - 24=x by omega,zew];rfl
theorem zaH (m:Mb) (k:Nat) (l:List Int) (hk:k<6) (hl:l.length=64) (hm:m.lv.length=384):(zaU m k l).lv.length=384:=by
 simp only [zaU,List.length_append,List.length_take,List.length_drop,hl,hm];omega
theorem zuk (m:Mb) (k:Nat) (l:List Int):List.take (24+k * 64) (mbc m)++(is l++List.drop (24+k * 64+64) (mbc m))=mbc (zaU m k l):=by
 rw [zuf,show 24+k * 64+64=24+(k * 64+64) by omega,zpA,zes]
 show _=hdM m++is (m.lv.take (k * 64)++l++m.lv.drop (k * 64+64))
 rw [zhG,zhG,List.append_assoc,List.append_assoc]
theorem zum (m:Mb) (k:Nat) (l:List Int) (hk:k<6) (hl:l.length=64) (hm:m.lv.length=384):List.take 64 (List.drop (24+k * 64) (mbc (zaU m k l)))=is l:=by
 rw [zpA,zdG]
 congr 1
 have h1:(m.lv.take (k * 64)).length=k * 64:=by rw [List.length_take];omega
 simp only [zaU]
 rw [List.append_assoc,List.drop_left' h1,List.take_left' hl]
theorem zul (m:Mb) (k:Nat) (l:List Int) (d:Int) (hk:k<6) (hl:l.length=64) (hm:m.lv.length=384):(mbc (zaU m k l)).set (24+k * 64) (.int .i64 d)=mbc (zaU m k (l.set 0 d)):=by
 have h1:(m.lv.take (k * 64)).length=k * 64:=by rw [List.length_take];omega
 rw [zes,zes,List.set_append_right _ _ (by rw [zdI];omega),zdI,show 24+k * 64 - 24=k * 64 by omega,zbO]
 show hdM m++_=hdM m++_
 congr 2
 simp only [zaU]
 rw [List.append_assoc,List.set_append_right _ _ (by omega),h1,Nat.sub_self,List.set_append_left _ _ (by omega),←List.append_assoc]
theorem tC_d (s:St) (w:Nat) (c:Cx) (mi:Nat) (hl:Bool) (q:Nat) (h:q<3):(tC s w c mi hl)[1+q]? =some (.int .i64 (dcS s q)):=by
 have:q=0∨q=1∨q=2:=by omega
 rcases this with rfl|rfl|rfl<;>rfl
theorem zvE (s:St) (w:Nat) (c:Cx) (mi:Nat) (hl:Bool) (q:Nat) (h:q<3) (x:Int):(tC s w c mi hl).set (1+q) (.int .i64 x)=tC (zfC s q x) w c mi hl:=by
 have:q=0∨q=1∨q=2:=by omega
 rcases this with rfl|rfl|rfl<;>rfl
theorem zsr (s:St) (q:Nat) (x:Int) (h:q<3):dcS (zfC s q x) q=x:=by
 have:q=0∨q=1∨q=2:=by omega
 rcases this with rfl|rfl|rfl<;>rfl
theorem zv9 (l:List Int) (h:l.length=64):zdP (.int .i64) (is l) [.int .i64 0,.int .i64 0,.int .i64 0,.int .i64 0,.int .i64 0,.int .i64 0,.int .i64 0,.int .i64 0,.int .i64 0,.int .i64 0,.int .i64 0,.int .i64 0,.int .i64 0,.int .i64 0,.int .i64 0,.int .i64 0,.int .i64 0,.int .i64 0,.int .i64 0,.int .i64 0,.int .i64 0,.int .i64 0,.int .i64 0,.int .i64 0,.int .i64 0,.int .i64 0,.int .i64 0,.int .i64 0,.int .i64 0,.int .i64 0,.int .i64 0,.int .i64 0,.int .i64 0,.int .i64 0,.int .i64 0,.int .i64 0,.int .i64 0,.int .i64 0,.int .i64 0,.int .i64 0,.int .i64 0,.int .i64 0,.int .i64 0,.int .i64 0,.int .i64 0,.int .i64 0,.int .i64 0,.int .i64 0,.int .i64 0,.int .i64 0,.int .i64 0,.int .i64 0,.int .i64 0,.int .i64 0,.int .i64 0,.int .i64 0,.int .i64 0,.int .i64 0,.int .i64 0,.int .i64 0,.int .i64 0,.int .i64 0,.int .i64 0,.int .i64 0]=some (decide (l=z64)):=by
 have hp:=zfO .i64 l z64 (by simp [z64,h])
 have dz:(l==z64)=decide (l=z64):=by rw [Bool.eq_iff_iff];simp
 rw [dz] at hp
 exact hp
section
variable (H:za) (i:Nat) (p:List UInt8) (n:Nat) (X:za) (c:Cx) (hl:Bool) (hi:i<H.length) (hX:X.length=4) (hn:n≤8 * p.length) (hp:p.length≤100000000)
include hi hX hn hp
set_option maxHeartbeats 4000000 in
theorem zq0 (m:Mb) (s:St) (a:Nat) (hml:m.lv.length=384) (hs:dcR s) (ha:a≤n):CallEx Tryz.prog 188 [.ptr (H.length+5) 0 0] (tG H i p n a X (mB m) (tB s i c (H.length+4) hl)) (zm4 H i p n X c hl (zbR p n 6 m s a)):=by
 have g5:=fun a B4 B5=>zhY H i p n a X B4 B5 hX
 have g4:=fun a B4 B5=>zjf H i p n a X B4 B5 hX
 have s5:=fun a B4 B5 B=>zgi H i p n a X B4 B5 hX B
 have s4:=fun a B4 B5 B=>zgj H i p n a X B4 B5 hX B
 have gi:=fun a B4 B5=>zkr H i p n a X B4 B5 hi
 have si:=fun a B4 B5 a'=>zgh H i p n a X B4 B5 hi a'
 have hlen:=fun (m:Mb) (h:m.lv.length=384)=>zT m h
 have hfg:=fun k (hk:k<6)=>zlb (cdl m) k hk
 have hcl:(fs (cdl m)).length=6:=rfl
 have co:=fun k hk K=>zu0 k K hk
 have hzl:z64.length=64:=by simp [z64]
 generalize hres:zbR p n 6 m s a=res
 have hlm:=hlen m hml
 refine CallEx.body (F0:=[(0,.ptr (H.length+5) 0 0)]) Tryz.func188 rfl Tryz.ntmps188 Tryz.results188 rfl (by kernel_rfl) rfl ?_
 refine PW.e ?_
 refine PW.f (fun K k=>by simp (maxSteps:=3000000) (disch:=omega) only [go_sem,↓reduceIte,reduceCtorEq,g5,g4,zF,zG,zam,zau,zay,zpB,hlm,Nat.reduceAdd,Nat.reduceLeDiff];exact k) ?_
 (repeat refine PW.seq ?_);refine PW.block (PW.loop ?_)
 suffices hl1:∀ (k:Nat) (m1:Mb) (s1:St) (a1:Nat),k≤6→m1.lv.length=384→cdl m1=cdl m→dcR s1→a1≤n→zbR p n (6 - k) m1 s1 a1=res→PL Tryz.prog _ _ [(0,.ptr (H.length+5) 0 0),(13,.agg (fs (cdl m))),(14,.int .i64 (k:Int))] (tG H i p n a1 X (mB m1) (tB s1 i c (H.length+4) hl)) _ by
  exact PL.at [0,13,14] (hl1 0 m s a (by omega) hml rfl hs ha hres) rfl rfl
 clear hres hml ha hs hlm
 intro k m1 s1 a1 hk6 hml hcd hs ha hres
 induction hd:6 - k using Nat.strongRecOn generalizing k m1 s1 a1 with
 | _ d ih=>
  refine PL.round ?_;refine PW.e ?_
  (repeat refine PW.seq ?_);refine PW.cond (t:=_) rfl (fun h=> ?_) (fun h=> ?_)
  rotate_left
  ·have h6:k=6:=by have:=of_decide_eq_false h;omega
   subst h6
   refine PW.exit ?_
   simp only [Nat.sub_self,zbR] at hres
   refine PW.e ?_
   refine PW.ret ⟨_,rfl,.inl ?_⟩
   rw [←hres]
   exact ⟨rfl,rfl⟩
  have h6:k<6:=by have:=of_decide_eq_true h;omega
  obtain ⟨n',hn'⟩:∃ n',6 - k=n'+1:=⟨5 - k,by omega⟩
  have hkn:5 - n'=k:=by omega
  rw [hn',zbR,hkn,hcd] at hres
  have hnx:=fun m1 s1 a1=>ih (6 - (k+1)) (by omega) (k+1) m1 s1 a1 (by omega)
  rw [show 6 - (k+1)=n' by omega] at hnx
  have hlm:=hlen m1 hml
  have hgx:=hfg k h6
  refine PW.skip ?_;(repeat refine PW.seq ?_);refine PW.block ?_
  refine PW.f (fun K k=>by simp (maxSteps:=3000000) (disch:=omega) only [go_sem,↓reduceIte,reduceCtorEq,hgx,hcl];exact k) ?_
  generalize zaz (cdl m) k=fg at *
  refine PW.e ?_
  cases fg with
  | false=>
   rw [if_neg (by decide)] at hres
   refine PW.t ?_
   refine PW.exit ?_
   refine PW.e ?_
   exact PL.at [0,13,14] (hnx m1 s1 a1 hml hcd hs ha hres rfl) rfl rfl
  | true=>
   rw [if_pos rfl] at hres
   refine PW.us ?_
   refine PW.f (fun K k=>by simp (maxSteps:=3000000) (disch:=omega) only [go_sem,↓reduceIte,reduceCtorEq,g5,g4,zF,zG,zam,zau];exact k) ?_
   refine PW.f (fun K k=>by simp (maxSteps:=3000000) (disch:=omega) only [go_sem,↓reduceIte,reduceCtorEq,g5,g4,zF,zG,zam,zau,zay,zgP];exact k) ?_
   have hsL:=fun m l=>zuk m k l
   have hq3:k - 3<3:=by omega
   by_cases hk:m1.k=2
   ·rw [if_pos hk] at hres
    have d1:(m1.k==2)=true:=by simp [hk]
    have bt:=zkb i p n a1 0 _ (gi a1 (mB m1) (tB s1 i c (H.length+4) hl)) ha hn hp (by omega)
    rw [si] at bt
    rw [d1]
    refine PW.t ?_
    cases hb:zeO p n 0 a1 with
    | er e a2=>
     have hbe:=zn5 _ _ _ _ hb ha
     rw [hb] at bt hres
     simp only [rvB,Rr.at] at bt
     rw [Rr.bind_er] at hres
     have hil:(is z64).length=64:=by rw [zt,hzl]
     have hic:=zU z64
     have d0:((e:Int)+1 !=0)=true:=by simp;omega
     have d9:=zaH m1 k z64 h6 hzl hml
     generalize hZ:is z64=Z at *
     refine PW.f (fun K k=>by simp (maxSteps:=3000000) (disch:=omega) only [go_sem,↓reduceIte,reduceCtorEq,g5,g4,s4,zF,zG,zcq,zau,zay,zbW,hlm,hil,hic];refine VCx.call (bt) rfl ?_;simp (maxSteps:=3000000) (disch:=omega) only [go_sem,↓reduceIte,reduceCtorEq,g5,g4,s4,zF,zG,zcq,zau,zay,zbW,hlm,hil,hic];exact k) ?_
     rw [←hZ]
     simp only [hsL,zaY]
     refine PW.f (fun K k=>by simp (maxSteps:=3000000) (disch:=omega) only [go_sem,↓reduceIte,reduceCtorEq,d0];exact k) ?_
     refine PW.t ?_
     refine PW.e ?_
     refine PW.ret ⟨_,rfl,.inl ?_⟩
     rw [←hres]
     exact ⟨rfl,a2,zaU m1 k z64,s1,by omega,d9,rfl⟩
    | ok l a2=>
     have hbo:=zhr _ _ _ _ hb ha
     have hll:l.length=64:=by rw [hbo.2.2,hzl]
     rw [hb] at bt hres
     simp only [rvB,Rr.at] at bt
     rw [Rr.bind_ok] at hres
     have hil:(is l).length=64:=by rw [zt,hll]
     have hic:=zU l
     have d9:=zaH m1 k l h6 hll hml
     have hlm9:=hlen _ d9
     have hgl:=zum m1 k l h6 hll hml
     have ez:=zv9 l hll
     refine PW.f (fun K k=>by simp (maxSteps:=3000000) (disch:=omega) only [go_sem,↓reduceIte,reduceCtorEq,g5,g4,s4,zF,zG,zcq,zau,zay,zbW,hlm,hil,hic];refine VCx.call (bt) rfl ?_;simp (maxSteps:=3000000) (disch:=omega) only [go_sem,↓reduceIte,reduceCtorEq,g5,g4,s4,zF,zG,zcq,zau,zay,zbW,hlm,hil,hic];exact k) ?_
     simp only [hsL,zaY]
     refine PW.e ?_
     refine PW.us ?_
     by_cases hz:l=z64
     ·rw [if_pos hz] at hres
      rw [decide_eq_true hz] at ez
      refine PW.f (fun K k=>by simp (maxSteps:=3000000) (disch:=omega) only [go_sem,↓reduceIte,reduceCtorEq,g4,zau,zay,hlm9,hgl,hil,ez];exact k) ?_
      refine PW.t ?_
      refine PW.e ?_
      refine PW.ret ⟨_,rfl,.inl ?_⟩
      rw [←hres]
      exact ⟨rfl,a2,zaU m1 k l,s1,hbo.2.1,d9,rfl⟩
     ·rw [if_neg hz] at hres
      rw [decide_eq_false hz] at ez
      refine PW.f (fun K k=>by simp (maxSteps:=3000000) (disch:=omega) only [go_sem,↓reduceIte,reduceCtorEq,g4,zau,zay,hlm9,hgl,hil,ez];exact k) ?_
      refine PW.us ?_
      refine PW.exit ?_
      refine PW.e ?_
      exact PL.at [0,13,14] (hnx (zaU m1 k l) s1 a2 d9 hcd hs hbo.2.1 hres rfl) rfl rfl
   ·rw [if_neg hk] at hres
    have d1:(m1.k==2)=false:=by simp [hk]
    rw [d1]
    refine PW.us ?_
    have con:=co k h6
    have pdc:=fun s=>tC_d s i c (H.length+4) hl (k - 3) hq3
    have psd:=fun s x=>zvE s i c (H.length+4) hl (k - 3) hq3 x
    have hsk:=hs (k - 3)
    (repeat refine PW.seq ?_);refine PW.draw mix (by kernel_rfl) fun K hK=> ?_;simp (maxSteps:=3000000) (disch:=omega) only [go_sem,↓reduceIte,reduceCtorEq]
    refine VCy.call (con _) rfl ?_;simp (maxSteps:=3000000) (disch:=omega) only [go_sem,↓reduceIte,reduceCtorEq,g5,zF];refine hK _ _ ?_;clear hK K
    have td:=zgg H i p n a1 X (mB m1) c s1 hl hi hX ha hn hp (dcS s1 (k - 3)) 4095 (by omega) hsk
    cases h1:tkD p n (dcS s1 (k - 3)) 4095 a1 with
    | er e a2=>
     have hb:=zn0 h1 ha
     rw [h1] at td hres
     simp only [rvS,Rr.at] at td
     rw [Rr.bind_er] at hres
     have d0:((e:Int)+1 !=0)=true:=by simp;omega
     refine PW.f (fun K k=>by simp (maxSteps:=3000000) (disch:=omega) only [go_sem,↓reduceIte,reduceCtorEq,g5,zF,zG,pdc,s5,psd,zdZ,zb4,zad];refine VCx.call (td) rfl ?_;simp (maxSteps:=3000000) (disch:=omega) only [go_sem,↓reduceIte,reduceCtorEq,g5,zF,zG,pdc,s5,psd,zdZ,zb4,zad];exact k) ?_
     refine PW.f (fun K k=>by simp (maxSteps:=3000000) (disch:=omega) only [go_sem,↓reduceIte,reduceCtorEq,d0];exact k) ?_
     refine PW.t ?_
     refine PW.e ?_
     refine PW.ret ⟨_,rfl,.inl ?_⟩
     rw [←hres]
     exact ⟨rfl,a2,m1,zfC s1 (k - 3) 0,by omega,hml,rfl⟩
    | ok x a2=>
     have hb:=zhq h1 ha
     rw [h1] at td hres
     simp only [rvS,Rr.at] at td
     rw [Rr.bind_ok] at hres
     refine PW.f (fun K k=>by simp (maxSteps:=3000000) (disch:=omega) only [go_sem,↓reduceIte,reduceCtorEq,g5,zF,zG,pdc,s5,psd,zdZ,zb4,zad];refine VCx.call (td) rfl ?_;simp (maxSteps:=3000000) (disch:=omega) only [go_sem,↓reduceIte,reduceCtorEq,g5,zF,zG,pdc,s5,psd,zdZ,zb4,zad];exact k) ?_
     refine PW.e ?_
     refine PW.us ?_
     have hs2:=zss hs (k - 3) (x:=x) (by omega)
     have pd2:=pdc (zfC s1 (k - 3) x)
     rw [zsr _ _ _ hq3] at pd2
     have bt:=zkb i p n a2 1 _ (gi a2 (mB m1) (tB (zfC s1 (k - 3) x) i c (H.length+4) hl)) hb.2.2 hn hp (by omega)
     rw [si] at bt
     cases hbk:zeO p n 1 a2 with
     | er e a3=>
      have hbe:=zn5 _ _ _ _ hbk hb.2.2
      rw [hbk] at bt hres
      simp only [rvB,Rr.at] at bt
      rw [Rr.bind_er] at hres
      have hil:(is z64).length=64:=by rw [zt,hzl]
      have hic:=zU z64
      have d0:((e:Int)+1 !=0)=true:=by simp;omega
      have d9:=zaH m1 k z64 h6 hzl hml
      generalize hZ:is z64=Z at *
      refine PW.f (fun K k=>by simp (maxSteps:=3000000) (disch:=omega) only [go_sem,↓reduceIte,reduceCtorEq,g5,g4,s4,zF,zG,zcq,zau,zay,zbW,hlm,hil,hic];refine VCx.call (bt) rfl ?_;simp (maxSteps:=3000000) (disch:=omega) only [go_sem,↓reduceIte,reduceCtorEq,g5,g4,s4,zF,zG,zcq,zau,zay,zbW,hlm,hil,hic];exact k) ?_
      rw [←hZ]
      simp only [hsL,zaY]
      refine PW.f (fun K k=>by simp (maxSteps:=3000000) (disch:=omega) only [go_sem,↓reduceIte,reduceCtorEq,d0];exact k) ?_
      refine PW.t ?_
      refine PW.e ?_
      refine PW.ret ⟨_,rfl,.inl ?_⟩
      rw [←hres]
      exact ⟨rfl,a3,zaU m1 k z64,zfC s1 (k - 3) x,by omega,d9,rfl⟩
     | ok l a3=>
      have hbo:=zhr _ _ _ _ hbk hb.2.2
      have hll:l.length=64:=by rw [hbo.2.2,hzl]
      rw [hbk] at bt hres
      simp only [rvB,Rr.at] at bt
      rw [Rr.bind_ok] at hres
      have hil:(is l).length=64:=by rw [zt,hll]
      have hic:=zU l
      have d9:=zaH m1 k l h6 hll hml
      have hlm9:=hlen _ d9
      have hs0:=zul m1 k l x h6 hll hml
      have d8:=zaH m1 k (l.set 0 x) h6 (by rw [List.length_set];exact hll) hml
      refine PW.f (fun K k=>by simp (maxSteps:=3000000) (disch:=omega) only [go_sem,↓reduceIte,reduceCtorEq,g5,g4,s4,zF,zG,zcq,zau,zay,zbW,hlm,hil,hic];refine VCx.call (bt) rfl ?_;simp (maxSteps:=3000000) (disch:=omega) only [go_sem,↓reduceIte,reduceCtorEq,g5,g4,s4,zF,zG,zcq,zau,zay,zbW,hlm,hil,hic];exact k) ?_
      simp only [hsL,zaY]
      refine PW.e ?_
      refine PW.us ?_
      (repeat refine PW.seq ?_);refine PW.drawt [] [] mix (by kernel_rfl) fun K hK=> ?_;simp (maxSteps:=3000000) (disch:=omega) only [go_sem,↓reduceIte,reduceCtorEq,g5,g4,s4,zF,zG,pd2,zau,zay,zbW,hlm9,hs0,zaY];refine hK _ _ ?_;clear hK K
      refine PW.e ?_
      exact PL.at [0,13,14] (hnx (zaU m1 k (l.set 0 x)) (zfC s1 (k - 3) x) a3 d8 hcd hs2 hbo.2.1 hres rfl) rfl rfl
end
end Go.Proofs.YtjgmdlcjbgiekaaGreatDoor.Sc
