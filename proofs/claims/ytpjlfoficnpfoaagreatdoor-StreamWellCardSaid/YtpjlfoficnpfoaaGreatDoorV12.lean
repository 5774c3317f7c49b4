/-
  Parts of the proof, put together in one text. No condition.
-/
import Derived.Test.YtpjlfoficnpfoaaGreatDoorV11
open Bool renaming and_eq_true → qK
open Int renaming tdiv_eq_ediv_of_nonneg → qD
open List renaming length_set → qA, take → qB, getElem?_append_right → qC, append_assoc → qE, getElem?_range → qF, mem_cons → qG, take_of_length_le → qH, not_mem_nil → qJ, drop → qL, length_append → qM, getElem?_append_left → qN, drop_of_length_le → qO, set_append_right → qP, getElem?_map → qQ, length_take → qS, nil_append → qU, append_nil → qV, getElem?_eq_none → qZ, set_append_left → jA
open Nat renaming sub_self → qI, le_refl → qT, strongRecOn → qW, reduceAdd → qX
open Option renaming map_some → qR, bind_eq_bind → qY
namespace Go.Proofs.YtpjlfoficnpfoaaGreatDoor.Sc
set_option linter.all false
open Pm Ty Go.RowKit
def hdM(m:Mb):List PV:=[.int .i64 m.k,.bool m.ua,.bool m.ub,.bool m.fp,.bool m.fd,.int .i64 m.va,.int .i64 m.vb,.int .i64 m.vc,.int .i64 m.vd,.int .i64 m.ve,.int .i64 m.vf,.int .i64 m.vg,.int .i64 m.vh,.int .i64 m.sa,.int .i64 m.sb,.int .i64 m.sc,.int .i64 m.sd,.int .i64 m.dl,.bool m.ca,.bool m.cb,.bool m.cc,.bool m.cd,.bool m.ce,.bool m.cf]
theorem ze8(m:Mb):mbc m=hdM m++is m.lv:=rfl
theorem zd8(m:Mb):(hdM m).length=24:=rfl
theorem zvi(m:Mb)(x:Nat):qB (24+x) (mbc m)=hdM m++is (m.lv.take x):=by rw[ze8,List.take_append,zd8,qH (by rw[zd8];omega),show 24+x - 24=x from om,zna]
theorem zqD(m:Mb)(x:Nat):qL (24+x) (mbc m)=is (m.lv.drop x):=by rw[ze8,List.drop_append,zd8,qO (by rw[zd8];omega),show 24+x - 24=x from om,zs0];rfl
theorem zad(m:Mb)(k:Nat)(l:List Int)(hk:k<6)(hl:l.length=64)(hm:m.lv.length=384):(za3 m k l).lv.length=384:=by simp only[za3,qM,qS,List.length_drop,hl,hm];omega
theorem zl7(m:Mb)(k:Nat)(l:List Int):qB (24+k * 64) (mbc m)++(is l++qL (24+k * 64+64) (mbc m))=mbc (za3 m k l):=by rw[zvi,show 24+k * 64+64=24+(k * 64+64)from om,zqD,ze8];show _=hdM m++is (m.lv.take (k * 64)++l++m.lv.drop (k * 64+64));rw[ziv,ziv,qE,qE]
theorem zqC(m:Mb)(k:Nat)(l:List Int)(hk:k<6)(hl:l.length=64)(hm:m.lv.length=384):qB 64 (qL (24+k * 64) (mbc (za3 m k l)))=is l:=by
 rw[zqD,zna];congr 1;have h1:(m.lv.take (k * 64)).length=k * 64:=by rw[qS];omega
 simp only[za3];rw[qE,List.drop_left' h1,List.take_left' hl]
theorem zl8(m:Mb)(k:Nat)(l:List Int)(d:Int)(hk:k<6)(hl:l.length=64)(hm:m.lv.length=384):(mbc (za3 m k l)).set (24+k * 64) (.int .i64 d)=mbc (za3 m k (l.set 0 d)):=by
 have h1:(m.lv.take (k * 64)).length=k * 64:=by rw[qS];omega
 rw[ze8,ze8,qP _ _ (by rw[zd8];omega),zd8,show 24+k * 64 - 24=k * 64 from om,zjy];show hdM m++_=hdM m++_;congr 2;simp only[za3];rw[qE,qP _ _ om,h1,qI,jA _ _ om,←qE]
theorem tC_d(s:St)(w:Nat)(c:Cx)(mi:Nat)(hl:Bool)(q:Nat)(h:q<3):(tC s w c mi hl)[1+q]? =some (.int .i64 (dcS s q)):=by have:q=0∨q=1∨q=2:=om;rcases this with rfl|rfl|rfl<;>rfl
theorem zws(s:St)(w:Nat)(c:Cx)(mi:Nat)(hl:Bool)(q:Nat)(h:q<3)(x:Int):(tC s w c mi hl).set (1+q) (.int .i64 x)=tC (zcW s q x) w c mi hl:=by have:q=0∨q=1∨q=2:=om;rcases this with rfl|rfl|rfl<;>rfl
theorem ztf(s:St)(q:Nat)(x:Int)(h:q<3):dcS (zcW s q x) q=x:=by have:q=0∨q=1∨q=2:=om;rcases this with rfl|rfl|rfl<;>rfl
theorem ztT(l:List Int)(h:l.length=64):zeg (.int .i64) (is l) [.int .i64 0,.int .i64 0,.int .i64 0,.int .i64 0,.int .i64 0,.int .i64 0,.int .i64 0,.int .i64 0,.int .i64 0,.int .i64 0,.int .i64 0,.int .i64 0,.int .i64 0,.int .i64 0,.int .i64 0,.int .i64 0,.int .i64 0,.int .i64 0,.int .i64 0,.int .i64 0,.int .i64 0,.int .i64 0,.int .i64 0,.int .i64 0,.int .i64 0,.int .i64 0,.int .i64 0,.int .i64 0,.int .i64 0,.int .i64 0,.int .i64 0,.int .i64 0,.int .i64 0,.int .i64 0,.int .i64 0,.int .i64 0,.int .i64 0,.int .i64 0,.int .i64 0,.int .i64 0,.int .i64 0,.int .i64 0,.int .i64 0,.int .i64 0,.int .i64 0,.int .i64 0,.int .i64 0,.int .i64 0,.int .i64 0,.int .i64 0,.int .i64 0,.int .i64 0,.int .i64 0,.int .i64 0,.int .i64 0,.int .i64 0,.int .i64 0,.int .i64 0,.int .i64 0,.int .i64 0,.int .i64 0,.int .i64 0,.int .i64 0,.int .i64 0]=some (decide (l=z64)):=by
 have hp:=zmV .i64 l z64 (by simp[z64,h]);have dz:(l==z64)=decide (l=z64):=by rw[Bool.eq_iff_iff];simp
 rw[dz]at hp;exact hp
section
variable (H:za) (i:Nat) (p:List UInt8) (n:Nat) (X:za) (c:Cx) (hl:Bool) (hi:i<H.length) (hX:X.length=4) (hn:n≤8 * p.length) (hp:p.length≤100000000)
include hi hX hn hp
set_option maxHeartbeats 4000000 in
theorem zr4(m:Mb)(s:St)(a:Nat)(hml:m.lv.length=384)(hs:dcR s)(ha:a≤n):CallEx Tryz.prog 184 [.ptr (H.length+5) 0 0] (tG H i p n a X (mB m) (tB s i c (H.length+4) hl)) (znZ H i p n X c hl (zaS p n 6 m s a)):=by
 have g5:=fun a B4 B5=>ziY H i p n a X B4 B5 hX;have g4:=fun a B4 B5=>zkm H i p n a X B4 B5 hX;have s5:=fun a B4 B5 B=>zgW H i p n a X B4 B5 hX B;have s4:=fun a B4 B5 B=>zgX H i p n a X B4 B5 hX B;have gi:=fun a B4 B5=>zlE H i p n a X B4 B5 hi;have si:=fun a B4 B5 a'=>zgV H i p n a X B4 B5 hi a';have hlen:=fun(m:Mb) (h:m.lv.length=384)=>zw m h;have hfg:=fun k (hk:k<6)=>zq3 (cdl m) k hk;have hcl:(fs (cdl m)).length=6:=rfl;have co:=fun k hk K=>zvS k K hk;have hzl:z64.length=64:=by simp[z64]
 generalize hres:zaS p n 6 m s a=res;have hlm:=hlen m hml;refine CallEx.body (F0:=[(0,.ptr (H.length+5) 0 0)]) Tryz.func184 rfl Tryz.ntmps184 Tryz.results184 rfl kr rfl ?_;refine PW.e ?_;refine PW.f (fun K k=>by simp(maxSteps:=3000000) (disch:=omega) only[go_sem,↓reduceIte,reduceCtorEq,g5,g4,zA,zC,zau,zaC,zaG,zqE,hlm,qX,Nat.reduceLeDiff];exact k) ?_;refine PW.l ?_;suffices hl1:∀(k:Nat) (m1:Mb) (s1:St) (a1:Nat),k≤6→m1.lv.length=384→cdl m1=cdl m→dcR s1→a1≤n→zaS p n (6 - k) m1 s1 a1=res→PL Tryz.prog _ _ [(0,.ptr (H.length+5) 0 0),(13,.agg (fs (cdl m))),(14,.int .i64 (k:Int))] (tG H i p n a1 X (mB m1) (tB s1 i c (H.length+4) hl)) _ by exact PL.at [0,13,14] (hl1 0 m s a om hml rfl hs ha hres) rfl rfl
 clear hres hml ha hs hlm;intro k m1 s1 a1 hk6 hml hcd hs ha hres;induction hd:6 - k using qW generalizing k m1 s1 a1 with
 | _ d ih=>
  refine PL.round ?_;refine PW.e ?_;refine PW.c (fun h=> ?_) (fun h=> ?_);rotate_left
  ·have h6:k=6:=ofF h;subst h6;refine PW.exit ?_;simp only[qI,zaS]at hres;refine PW.e ?_;refine PW.ret ⟨_,rfl,.inl ?_⟩;rw[←hres];exact⟨rfl,rfl⟩
  have h6:k<6:=ot h;obtain⟨n',hn'⟩:∃ n',6 - k=n'+1:=⟨5 - k,om⟩;have hkn:5 - n'=k:=om;rw[hn',zaS,hkn,hcd]at hres;have hnx:=fun m1 s1 a1=>ih (6 - (k+1)) om (k+1) m1 s1 a1 om;rw[show 6 - (k+1)=n' from om]at hnx;have hlm:=hlen m1 hml;have hgx:=hfg k h6;refine PW.skip ?_;refine PW.b ?_;refine PW.g (nq2 hgx hcl) ?_;generalize zdR (cdl m) k=fg at *;refine PW.e ?_;cases fg with
  | false=>
   rw[if_neg (by decide)]at hres;refine PW.t ?_;refine PW.exit ?_;refine PW.e ?_;exact PL.at [0,13,14] (hnx m1 s1 a1 hml hcd hs ha hres rfl) rfl rfl
  | true=>
   rw[if_pos rfl]at hres;refine PW.us ?_;refine PW.f (fun K k=>by simp(maxSteps:=3000000) (disch:=omega) only[go_sem,↓reduceIte,reduceCtorEq,g5,g4,zA,zC,zau,zaC];exact k) ?_;refine PW.f (fun K k=>by simp(maxSteps:=3000000) (disch:=omega) only[go_sem,↓reduceIte,reduceCtorEq,g5,g4,zA,zC,zau,zaC,zaG,zdn];exact k) ?_;have hsL:=fun m l=>zl7 m k l;have hq3:k - 3<3:=om;by_cases hk:m1.k=2
   ·rw[if_pos hk]at hres;have d1:(m1.k==2)=true:=by simp[hk]
    have bt:=zlh i p n a1 0 _ (gi a1 (mB m1) (tB s1 i c (H.length+4) hl)) ha hn hp om;rw[si]at bt;rw[d1];refine PW.t ?_;cases hb:zdo p n 0 a1 with
    | er e a2=>
     have hbe:=zkk _ _ _ _ hb ha;rw[hb]at bt hres;simp only[rvB,Rr.at]at bt;rw[Rr.bind_er]at hres;have hil:(is z64).length=64:=by rw[zar,hzl]
     have hic:=zaR z64;have d0:((e:Int)+1 !=0)=true:=by simp;omega
     have d9:=zad m1 k z64 h6 hzl hml;generalize hZ:is z64=Z at *;refine PW.f (fun K k=>by simp(maxSteps:=3000000) (disch:=omega) only[go_sem,↓reduceIte,reduceCtorEq,g5,g4,s4,zA,zC,zcs,zaC,zaG,zbY,hlm,hil,hic];refine VCx.call (bt) rfl ?_;simp(maxSteps:=3000000) (disch:=omega) only[go_sem,↓reduceIte,reduceCtorEq,g5,g4,s4,zA,zC,zcs,zaC,zaG,zbY,hlm,hil,hic];exact k) ?_;rw[←hZ];simp only[hsL,zba];refine PW.g d0 ?_;refine PW.t ?_;refine PW.e ?_;refine PW.ret ⟨_,rfl,.inl ?_⟩;rw[←hres];exact⟨rfl,a2,za3 m1 k z64,s1,om,d9,rfl⟩
    | ok l a2=>
     have hbo:=zeO _ _ _ _ hb ha;have hll:l.length=64:=by rw[hbo.2.2,hzl]
     rw[hb]at bt hres;simp only[rvB,Rr.at]at bt;rw[Rr.bind_ok]at hres;have hil:(is l).length=64:=by rw[zar,hll]
     have hic:=zaR l;have d9:=zad m1 k l h6 hll hml;have hlm9:=hlen _ d9;have hgl:=zqC m1 k l h6 hll hml;have ez:=ztT l hll;refine PW.f (fun K k=>by simp(maxSteps:=3000000) (disch:=omega) only[go_sem,↓reduceIte,reduceCtorEq,g5,g4,s4,zA,zC,zcs,zaC,zaG,zbY,hlm,hil,hic];refine VCx.call (bt) rfl ?_;simp(maxSteps:=3000000) (disch:=omega) only[go_sem,↓reduceIte,reduceCtorEq,g5,g4,s4,zA,zC,zcs,zaC,zaG,zbY,hlm,hil,hic];exact k) ?_;simp only[hsL,zba];refine PW.e ?_;refine PW.us ?_;by_cases hz:l=z64
     ·rw[if_pos hz]at hres;rw[decide_eq_true hz]at ez;refine PW.f (fun K k=>by simp(maxSteps:=3000000) (disch:=omega) only[go_sem,↓reduceIte,reduceCtorEq,g4,zaC,zaG,hlm9,hgl,hil,ez];exact k) ?_;refine PW.t ?_;refine PW.e ?_;refine PW.ret ⟨_,rfl,.inl ?_⟩;rw[←hres];exact⟨rfl,a2,za3 m1 k l,s1,hbo.2.1,d9,rfl⟩
     ·rw[if_neg hz]at hres;rw[decide_eq_false hz]at ez;refine PW.f (fun K k=>by simp(maxSteps:=3000000) (disch:=omega) only[go_sem,↓reduceIte,reduceCtorEq,g4,zaC,zaG,hlm9,hgl,hil,ez];exact k) ?_;refine PW.us ?_;refine PW.exit ?_;refine PW.e ?_;exact PL.at [0,13,14] (hnx (za3 m1 k l) s1 a2 d9 hcd hs hbo.2.1 hres rfl) rfl rfl
   ·rw[if_neg hk]at hres;have d1:(m1.k==2)=false:=by simp[hk]
    rw[d1];refine PW.us ?_;have con:=co k h6;have pdc:=fun s=>tC_d s i c (H.length+4) hl (k - 3) hq3;have psd:=fun s x=>zws s i c (H.length+4) hl (k - 3) hq3 x;have hsk:=hs (k - 3);(repeat refine PW.seq ?_);refine PW.draw mix kr fun K hK=> ?_;simp(maxSteps:=3000000) (disch:=omega) only[go_sem,↓reduceIte,reduceCtorEq];refine VCy.call (con _) rfl ?_;simp(maxSteps:=3000000) (disch:=omega) only[go_sem,↓reduceIte,reduceCtorEq,g5,zA];refine hK _ _ ?_;clear hK K;have td:=zgU H i p n a1 X (mB m1) c s1 hl hi hX ha hn hp (dcS s1 (k - 3)) 4095 om hsk;cases h1:tkD p n (dcS s1 (k - 3)) 4095 a1 with
    | er e a2=>
     have hb:=zpb h1 ha;rw[h1]at td hres;simp only[rvS,Rr.at]at td;rw[Rr.bind_er]at hres;have d0:((e:Int)+1 !=0)=true:=by simp;omega
     refine PW.f (fun K k=>by simp(maxSteps:=3000000) (disch:=omega) only[go_sem,↓reduceIte,reduceCtorEq,g5,zA,zC,pdc,s5,psd,zet,zb7,zah];refine VCx.call (td) rfl ?_;simp(maxSteps:=3000000) (disch:=omega) only[go_sem,↓reduceIte,reduceCtorEq,g5,zA,zC,pdc,s5,psd,zet,zb7,zah];exact k) ?_;refine PW.g d0 ?_;refine PW.t ?_;refine PW.e ?_;refine PW.ret ⟨_,rfl,.inl ?_⟩;rw[←hres];exact⟨rfl,a2,m1,zcW s1 (k - 3) 0,om,hml,rfl⟩
    | ok x a2=>
     have hb:=zgQ h1 ha;rw[h1]at td hres;simp only[rvS,Rr.at]at td;rw[Rr.bind_ok]at hres;refine PW.f (fun K k=>by simp(maxSteps:=3000000) (disch:=omega) only[go_sem,↓reduceIte,reduceCtorEq,g5,zA,zC,pdc,s5,psd,zet,zb7,zah];refine VCx.call (td) rfl ?_;simp(maxSteps:=3000000) (disch:=omega) only[go_sem,↓reduceIte,reduceCtorEq,g5,zA,zC,pdc,s5,psd,zet,zb7,zah];exact k) ?_;refine PW.e ?_;refine PW.us ?_;have hs2:=znk hs (k - 3) (x:=x) om;have pd2:=pdc (zcW s1 (k - 3) x);rw[ztf _ _ _ hq3]at pd2;have bt:=zlh i p n a2 1 _ (gi a2 (mB m1) (tB (zcW s1 (k - 3) x) i c (H.length+4) hl)) hb.2.2 hn hp om;rw[si]at bt;cases hbk:zdo p n 1 a2 with
     | er e a3=>
      have hbe:=zkk _ _ _ _ hbk hb.2.2;rw[hbk]at bt hres;simp only[rvB,Rr.at]at bt;rw[Rr.bind_er]at hres;have hil:(is z64).length=64:=by rw[zar,hzl]
      have hic:=zaR z64;have d0:((e:Int)+1 !=0)=true:=by simp;omega
      have d9:=zad m1 k z64 h6 hzl hml;generalize hZ:is z64=Z at *;refine PW.f (fun K k=>by simp(maxSteps:=3000000) (disch:=omega) only[go_sem,↓reduceIte,reduceCtorEq,g5,g4,s4,zA,zC,zcs,zaC,zaG,zbY,hlm,hil,hic];refine VCx.call (bt) rfl ?_;simp(maxSteps:=3000000) (disch:=omega) only[go_sem,↓reduceIte,reduceCtorEq,g5,g4,s4,zA,zC,zcs,zaC,zaG,zbY,hlm,hil,hic];exact k) ?_;rw[←hZ];simp only[hsL,zba];refine PW.g d0 ?_;refine PW.t ?_;refine PW.e ?_;refine PW.ret ⟨_,rfl,.inl ?_⟩;rw[←hres];exact⟨rfl,a3,za3 m1 k z64,zcW s1 (k - 3) x,om,d9,rfl⟩
     | ok l a3=>
      have hbo:=zeO _ _ _ _ hbk hb.2.2;have hll:l.length=64:=by rw[hbo.2.2,hzl]
      rw[hbk]at bt hres;simp only[rvB,Rr.at]at bt;rw[Rr.bind_ok]at hres;have hil:(is l).length=64:=by rw[zar,hll]
      have hic:=zaR l;have d9:=zad m1 k l h6 hll hml;have hlm9:=hlen _ d9;have hs0:=zl8 m1 k l x h6 hll hml;have d8:=zad m1 k (l.set 0 x) h6 (by rw[qA];exact hll) hml;refine PW.f (fun K k=>by simp(maxSteps:=3000000) (disch:=omega) only[go_sem,↓reduceIte,reduceCtorEq,g5,g4,s4,zA,zC,zcs,zaC,zaG,zbY,hlm,hil,hic];refine VCx.call (bt) rfl ?_;simp(maxSteps:=3000000) (disch:=omega) only[go_sem,↓reduceIte,reduceCtorEq,g5,g4,s4,zA,zC,zcs,zaC,zaG,zbY,hlm,hil,hic];exact k) ?_;simp only[hsL,zba];refine PW.e ?_;refine PW.us ?_;(repeat refine PW.seq ?_);refine PW.drawt [] [] mix kr fun K hK=> ?_;simp(maxSteps:=3000000) (disch:=omega) only[go_sem,↓reduceIte,reduceCtorEq,g5,g4,s4,zA,zC,pd2,zaC,zaG,zbY,hlm9,hs0,zba];refine hK _ _ ?_;clear hK K;refine PW.e ?_;exact PL.at [0,13,14] (hnx (za3 m1 k (l.set 0 x)) (zcW s1 (k - 3) x) a3 d8 hcd hs2 hbo.2.1 hres rfl) rfl rfl
end
end Go.Proofs.YtpjlfoficnpfoaaGreatDoor.Sc
namespace Go.Proofs.YtpjlfoficnpfoaaGreatDoor.Sc
set_option linter.all false
open Pm Ty Go.RowKit
def zdp(c:Cx)(s:St)(q:List UInt8)(n a:Nat):Rr (Mb×St):=if vcx c&&zft s then mtk c s q n a else .er 0 a
def rvM:Rr (Mb×St)→PV
 | .ok y _=>.tup [.agg (mbc y.1),.agg (stc y.2),.int .i64 0]
 | .er e _=>.tup [.agg zmv,.agg (stc zSt),ecd e]
def zwY(H:za)(i:Nat)(p:List UInt8)(n:Nat)(x:Rr (Mb×St)):PV→za→Prop:=fun v H'=>v=rvM x∧
 match x with
 | .ok _ a=>H'=H.set i (rA p n a)
 | .er _ _=>∃ a,a≤n∧H'=H.set i (rA p n a)
theorem zm6(k:Nat)(m:Mb):∀ x∈mbc m,Scoped k x:=fun x hx=>mbl_sc0 k m x hx
where
 mbl_sc0 (n:Nat) (m:Mb):∀ x∈mbc m,Scoped n x:=fun x hx=>by simp only[mbc,qG]at hx;rcases hx with rfl|rfl|rfl|rfl|rfl|rfl|rfl|rfl|rfl|rfl|rfl|rfl|rfl|rfl|rfl|rfl|rfl|rfl|rfl|rfl|rfl|rfl|rfl|rfl|hx;all_goals first|exact .int _ _|exact .bool _|exact zcH _ _ _ hx
theorem zpJ(k:Nat)(x:Rr (Mb×St)):Scoped k (rvM x):=by
 cases x with
 | ok y a=>
  refine .tup (zbf fun x hx=> ?_);simp only[qG,qJ,or_false]at hx;rcases hx with rfl|rfl|rfl
  ·exact zaB (zm6 _ _)
  ·exact zcU _ _
  ·exact .int _ _
 | er e a=>
  refine .tup (zbf fun x hx=> ?_);simp only[qG,qJ,or_false]at hx;rcases hx with rfl|rfl|rfl
  ·exact zaB (zm6 _ _)
  ·exact zcU _ _
  ·exact .int _ _
theorem ziK:zd Tryz.prog 149=some zmv:=kr
theorem zcP:zmv.length=408:=zw zMb zai
theorem zeF:zmv.all PV.cell=true:=zdI zMb
theorem zgR{c:Cx}{p:List UInt8}{n:Nat}{hl:Bool}{m:Mb}{s:St}{a:Nat}{y:Mb×St}{a1:Nat}(h:zbP c p n hl m s a= .ok y a1)(ha:a≤n):a1≤n∧y.1.lv=m.lv∧(s.da=y.2.da∧s.db=y.2.db∧s.dc=y.2.dc):=by
 unfold zbP at h;split at h
 ·suffices hr:∀(m':Mb) (a':Nat),m'.lv=m.lv→a'≤n→((tkS p n a').bind fun d a2=>if vqB (s.q+d)then .ok ({ m' with dl:=d },{ s with q:=s.q+d }) a2 else .er 2 a2)= .ok y a1→a1≤n∧y.1.lv=m.lv∧(s.da=y.2.da∧s.db=y.2.db∧s.dc=y.2.dc) by
   split at h
   ·cases hf:tkF p n a with
    | er e a2=>rw[hf]at h;cases h
    | ok b a2=>have:=zdi hf;rw[hf,Rr.bind_ok,Rr.bind_ok]at h;exact hr { m with fd:=b } a2 rfl om h
   ·rw[Rr.bind_ok]at h;exact hr m a rfl ha h
  intro m' a' hm' ha' h;cases h1:tkS p n a' with
  | er e a2=>rw[h1]at h;cases h
  | ok d a2=>
   have b1:=zcn h1 ha';rw[h1,Rr.bind_ok]at h;split at h
   ·injection h with e1 e2;subst e1 e2;exact⟨b1.2.2,hm',rfl,rfl,rfl⟩
   ·cases h
 ·injection h with e1 e2;subst e1 e2;exact⟨ha,rfl,rfl,rfl,rfl⟩
theorem zsl(m:Mb)(n:Nat)(b:Bool):(zbR m n b).k=m.k:=by
 unfold zbR;repeat' split
 all_goals rfl
theorem zpd{p:List UInt8}{n:Nat}:∀(r:Nat) (m:Mb) (a:Nat) {m':Mb} {a1:Nat},zdv p n r m a= .ok m' a1→a≤n→a1≤n∧m'.lv=m.lv∧m'.k=m.k
 | 0,m,a,m',a1,h,ha=>by
  simp only[zdv]at h;split at h
  ·injection h with e1 e2;subst e1 e2;exact⟨ha,rfl,rfl⟩
  ·cases h
 | r+1,m,a,m',a1,h,ha=>by
  simp only[zdv]at h;cases hf:tkF p n a with
  | er e a2=>rw[hf]at h;cases h
  | ok b a2=>have hb:=zdi hf;rw[hf,Rr.bind_ok]at h;obtain⟨c1,c2,c3⟩:=zpd r _ _ h om;exact⟨c1,by rw[c2,zdA],by rw[c3,zsl]⟩
theorem ziX{p:List UInt8}{n:Nat}{hl:Bool}{m:Mb}{a:Nat}{m':Mb}{a1:Nat}(h:zbE p n hl m a= .ok m' a1)(ha:a≤n):a1≤n∧m'.lv=m.lv∧m'.k=m.k:=by
 unfold zbE at h;split at h
 ·exact zpd _ _ _ h ha
 ·injection h with e1 e2;subst e1 e2;exact⟨ha,rfl,rfl⟩
theorem zlC{c:Cx}{p:List UInt8}{n:Nat}:∀(r d:Nat) (m:Mb) (s:St) (a:Nat) {y:Mb×St} {a1:Nat},zbu c p n r d m s a= .ok y a1→a≤n→vrS s→a1≤n∧SameU m y.1∧vrS y.2
 | 0,d,m,s,a,y,a1,h,ha,hs=>by
  simp only[zbu]at h;injection h with e1 e2;subst e1 e2;exact⟨ha,.refl m,hs⟩
 | r+1,d,m,s,a,y,a1,h,ha,hs=>by
  simp only[zbu]at h;cases h1:zeN c p n m s d a with
  | er e a2=>rw[h1]at h;cases h
  | ok x a2=>obtain⟨b1,b2,b3⟩:=zuF h1 ha hs;rw[h1,Rr.bind_ok]at h;obtain⟨c1,c2,c3⟩:=zlC r (d+1) x.1 x.2 a2 h b1 b3;exact⟨c1,b2.trans c2,c3⟩
theorem zuA{c:Cx}{p:List UInt8}{n:Nat}{m:Mb}{s:St}{d k a:Nat}{y:Mb×St}{a1:Nat}(h:zcT c p n m s d k a= .ok y a1):SameQ s y.2:=by
 unfold zcT at h;suffices hr:∀(m':Mb) (a':Nat),((tkD p n (sXs s d) 63 a').bind fun x a2=>(tkD p n (sYs s d) 63 a2).bind fun y a3=>.ok (zaJ m' d k x y,zbg s d x y) a3)= .ok y a1→SameQ s y.2 by
  split at h
  ·cases hf:tkF p n a with
   | er e a2=>rw[hf]at h;cases h
   | ok b a2=>rw[hf,Rr.bind_ok,Rr.bind_ok]at h;exact hr _ _ h
  ·rw[Rr.bind_ok]at h;exact hr _ _ h
 intro m' a' h;cases h1:tkD p n (sXs s d) 63 a' with
 | er e a2=>rw[h1]at h;cases h
 | ok x a2=>
  rw[h1,Rr.bind_ok]at h;cases h2:tkD p n (sYs s d) 63 a2 with
  | er e a3=>rw[h2]at h;cases h
  | ok z a3=>rw[h2,Rr.bind_ok]at h;injection h with e1 e2;subst e1;show SameQ s (zbg s d x z);unfold zbg;split<;>exact⟨rfl,rfl,rfl,rfl⟩
theorem zo3{c:Cx}{p:List UInt8}{n d:Nat}:∀(r k:Nat) (m:Mb) (s:St) (a:Nat) {y:Mb×St} {a1:Nat},zbO c p n d r k m s a= .ok y a1→SameQ s y.2
 | 0,k,m,s,a,y,a1,h=>by
  simp only[zbO]at h;injection h with e1 e2;subst e1;exact⟨rfl,rfl,rfl,rfl⟩
 | r+1,k,m,s,a,y,a1,h=>by
  simp only[zbO]at h;cases h1:zcT c p n m s d k a with
  | er e a2=>rw[h1]at h;cases h
  | ok x a2=>rw[h1,Rr.bind_ok]at h;exact(zuA h1).trans (zo3 r (k+1) x.1 x.2 a2 h)
theorem zlB{c:Cx}{p:List UInt8}{n:Nat}:∀(r d:Nat) (m:Mb) (s:St) (a:Nat) {y:Mb×St} {a1:Nat},zbu c p n r d m s a= .ok y a1→SameQ s y.2
 | 0,d,m,s,a,y,a1,h=>by
  simp only[zbu]at h;injection h with e1 e2;subst e1;exact⟨rfl,rfl,rfl,rfl⟩
 | r+1,d,m,s,a,y,a1,h=>by
  simp only[zbu]at h;cases h1:zeN c p n m s d a with
  | er e a2=>rw[h1]at h;cases h
  | ok x a2=>
   rw[h1,Rr.bind_ok]at h;refine SameQ.trans ?_ (zlB r (d+1) x.1 x.2 a2 h);unfold zeN at h1;split at h1
   ·exact zo3 _ _ _ _ _ h1
   ·injection h1 with e1 e2;subst e1;exact⟨rfl,rfl,rfl,rfl⟩
theorem ziV{c:Cx}{p:List UInt8}{n:Nat}{m:Mb}{s:St}{a:Nat}{y:Mb×St}{a1:Nat}(h:zbD c p n m s a= .ok y a1)(ha:a≤n)(hs:vrS s):a1≤n∧y.1.lv=m.lv∧y.1.k=m.k∧SameQ s y.2:=by
 unfold zbD at h;split at h
 ·split at h
  ·cases hf:tkF p n a with
   | er e a2=>rw[hf]at h;cases h
   | ok b a2=>have:=zdi hf;rw[hf,Rr.bind_ok,Rr.bind_ok]at h;obtain⟨c1,c2,c3⟩:=zlC _ _ _ _ _ h om hs;exact⟨c1,c2.1,c2.2.2.2.2,zlB _ _ _ _ _ h⟩
  ·rw[Rr.bind_ok]at h;obtain⟨c1,c2,c3⟩:=zlC _ _ _ _ _ h ha hs;exact⟨c1,c2.1,c2.2.2.2.2,zlB _ _ _ _ _ h⟩
 ·injection h with e1 e2;subst e1 e2;exact⟨ha,rfl,rfl,rfl,rfl,rfl,rfl⟩
theorem ziW{c:Cx}{p:List UInt8}{n a:Nat}{x:Mb×Bool}{a1:Nat}(h:zbW c p n a= .ok x a1)(ha:a≤n):a1≤n∧x.1.lv=zl384:=by
 unfold zbW at h;split at h
 ·injection h with e1 e2;subst e1 e2;exact⟨ha,rfl⟩
 ·cases hu:tkU p n a with
  | er e a2=>rw[hu]at h;cases h
  | ok v a2=>
   have hb:=zdh hu ha;rw[hu,Rr.bind_ok]at h;generalize (if c.t=2 then 3 else 7:Nat)=last at h;split at h
   ·cases h
   ·split at h
    ·injection h with e1 e2;subst e1 e2;exact⟨hb.2.2,rfl⟩
    ·split at h
     ·injection h with e1 e2;subst e1 e2;exact⟨hb.2.2,rfl⟩
     ·injection h with e1 e2;subst e1 e2;exact⟨hb.2.2,rfl⟩
theorem zes{p:List UInt8}{n:Nat}:∀(r:Nat) (m:Mb) (s:St) (a:Nat) {y:Mb×St} {a1:Nat},zaS p n r m s a= .ok y a1→a≤n→r≤6→m.lv.length=384→a1≤n∧y.1.lv.length=384∧y.1.k=m.k
 | 0,m,s,a,y,a1,h,ha,hr,hm=>by
  simp only[zaS]at h;injection h with e1 e2;subst e1 e2;exact⟨ha,hm,rfl⟩
 | r+1,m,s,a,y,a1,h,ha,hr,hm=>by
  have hzl:z64.length=64:=by simp[z64]
  simp only[zaS]at h;split at h
  ·split at h
   ·cases h1:zdo p n 0 a with
    | er e a2=>rw[h1]at h;cases h
    | ok l a2=>
     have hb:=zeO _ _ _ _ h1 ha;rw[h1,Rr.bind_ok]at h;split at h
     ·cases h
     ·exact zes r (za3 m (5 - r) l) s a2 h hb.2.1 om (zad _ _ _ om (by rw[hb.2.2,hzl]) hm)
   ·cases h1:tkD p n (dcS s (5 - r - 3)) 4095 a with
    | er e a2=>rw[h1]at h;cases h
    | ok d a2=>
     have hb:=zgQ h1 ha;rw[h1,Rr.bind_ok]at h;cases h2:zdo p n 1 a2 with
     | er e a3=>rw[h2]at h;cases h
     | ok l a3=>have hb2:=zeO _ _ _ _ h2 hb.2.2;rw[h2,Rr.bind_ok]at h;exact zes r (za3 m (5 - r) (l.set 0 d)) _ a3 h hb2.2.1 om (zad _ _ _ om (by rw[qA,hb2.2.2,hzl]) hm)
  ·exact zes r m s a h ha om hm
theorem zlA(H:za)(i:Nat)(p:List UInt8)(n a:Nat)(K:za)(x:Rr (Mb×St))(hx:match x with| .ok _ a'=>a=a'| .er _ _=>a≤n):zmo H (zwY H i p n x) (rvM x) (H.set i (rA p n a)++K):=
 .inr (.inr fun hs=>⟨rvM x,H.set i (rA p n a),by
  cases x with
  | ok y a'=>exact⟨rfl,by rw[show a=a' from hx]⟩
  | er e a'=>exact⟨rfl,a,hx,rfl⟩,by simp,CutH.base (zdN _ _ _ _ _ hs),.id (zpJ _ _)⟩)
theorem zo9{c:Cx}{p:List UInt8}{n a e a1:Nat}(h:zbW c p n a= .er e a1)(ha:a≤n):a1≤n:=by
 unfold zbW at h;split at h
 ·cases h
 ·cases hu:tkU p n a with
  | er e2 a2=>rw[hu]at h;have:=zf7 hu;injection h with h1 h2;omega
  | ok v a2=>
   have hb:=zdh hu ha;rw[hu,Rr.bind_ok]at h;generalize (if c.t=2 then 3 else 7:Nat)=last at h;split at h
   ·injection h with h1 h2;omega
   ·split at h
    ·cases h
    ·split at h<;>cases h
theorem zpi(H:za)(i:Nat)(p:List UInt8)(n a:Nat)(X:za)(B4 B5:Blk)(j:Nat)(hX:X.length=4)(hj:j<4):(tG H i p n a X B4 B5)[H.length+j]? =X[j]? :=by unfold tG;rw[qC sp,qA,show H.length+j - H.length=j from om,qN om]
theorem ztJ(H:za)(i:Nat)(p:List UInt8)(n a:Nat)(X:za)(B4 B5 B:Blk)(j:Nat)(hX:X.length=4)(hj:j<4):(tG H i p n a X B4 B5).set (H.length+j) B=tG H i p n a (X.set j B) B4 B5:=by unfold tG;rw[qP _ _ sp,qA,show H.length+j - H.length=j from om,jA _ _ om]
def Rk(c:Cx)(q:List UInt8)(n:Nat):Nat→Mb→St→Bool→Nat→Rr (Mb×St)
 | 0,_,s,_,a=>mtk c s q n a
 | 1,m,s,hl,a=>zkg c q n hl m s a
 | 2,m,s,hl,a=>(zbP c q n hl m s a).bind fun z a3=>(zbE q n hl z.1 a3).bind fun m a4=>(zaS q n 6 m z.2 a4).bind fun w a5=>.ok (w.1,aft w.2 w.1.k) a5
 | 3,m,s,hl,a=>(zbE q n hl m a).bind fun m a4=>(zaS q n 6 m s a4).bind fun w a5=>.ok (w.1,aft w.2 w.1.k) a5
 | 4,m,s,_,a=>(zaS q n 6 m s a).bind fun w a5=>.ok (w.1,aft w.2 w.1.k) a5
 | _,m,s,_,a=>.ok (m,aft s m.k) a
structure Sd(n k:Nat)(m:Mb)(s:St)(hl:Bool)(a:Nat):Prop where
 l:m.lv.length=384
 a:a≤n
 z:k=0→m=zMb∧hl=false
 v:k≤1→vrS s
 q:k≤2→1≤s.q∧s.q≤31
 d:k≤4→dcR s
def prts:List PV:=[.func 180 [] [],.func 181 [] [],.func 182 [] [],.func 183 [] [],.func 184 [] []]
def zwQ(H:za)(i:Nat)(p:List UInt8)(n:Nat)(X:za)(c:Cx)(k:Nat)(res:Rr (Mb×St)):PV→za→Prop:=fun v H'=>
 (∃ m s hl a,v= .int .i64 0∧Sd n (k+1) m s hl a∧Rk c p n (k+1) m s hl a=res∧H'=tG H i p n a X (mB m) (tB s i c (H.length+4) hl))∨
 (∃ e a0,res= .er e a0∧v=ecd e∧∃ a m s hl,a≤n∧m.lv.length=384∧H'=tG H i p n a X (mB m) (tB s i c (H.length+4) hl))
theorem zi8{H:za}{i:Nat}{p:List UInt8}{n:Nat}{X:za}{c:Cx}{k:Nat}{res:Rr (Mb×St)}{hl:Bool}{x:Rr (Mb×St)}(hok:∀ y a,x= .ok y a→Sd n (k+1) y.1 y.2 hl a∧Rk c p n (k+1) y.1 y.2 hl a=res)(her:∀ e a,x= .er e a→∃ a0,res= .er e a0)(v:PV)(H':za)(h:znZ H i p n X c hl x v H'):zwQ H i p n X c k res v H':=by
 cases x with
 | ok y a=>
  obtain⟨h1,h2⟩:=hok y a rfl;exact .inl ⟨y.1,y.2,hl,a,h.1,h1,h2,h.2⟩
 | er e a=>obtain⟨a0,h0⟩:=her e a rfl;obtain⟨h1,a1,m,s,h2,h3,h4⟩:=h;exact .inr ⟨e,a0,h0,h1,a1,m,s,hl,h2,h3,h4⟩
theorem disp(H:za)(i:Nat)(p:List UInt8)(n:Nat)(X:za)(c:Cx)(hi:i<H.length)(hX:X.length=4)(hn:n≤8 * p.length)(hp:p.length≤100000000)(k:Nat)(hk:k<5)(m:Mb)(s:St)(hl:Bool)(a:Nat)(res:Rr (Mb×St))(hS:Sd n k m s hl a)(hR:Rk c p n k m s hl a=res):
  ∃ f,prts[k]? =some (.func f [] [])∧CallEx Tryz.prog f [.ptr (H.length+5) 0 0] (tG H i p n a X (mB m) (tB s i c (H.length+4) hl)) (zwQ H i p n X c k res):=by
 obtain⟨hl384,ha,hz,hv,hq,hd⟩:=hS;have h5:k=0∨k=1∨k=2∨k=3∨k=4:=om;rcases h5 with rfl|rfl|rfl|rfl|rfl
 ·obtain⟨rfl,rfl⟩:=hz rfl;refine⟨_,rfl,(zo2 H i p n a X c s hi hX ha hn hp).toEx.mono fun v H' h=> ?_⟩;obtain⟨rfl,rfl⟩:=h;simp only[Rk,mtk]at hR;cases hk:zbW c p n a with
  | ok x a1=>
   rw[hk,Rr.bind_ok]at hR;obtain⟨b1,b2⟩:=ziW hk ha;exact .inl ⟨x.1,s,x.2,a1,rfl,⟨by rw[b2];exact zai,b1,fun e=>om,fun _=>hv om,fun _=>hq om,fun _=>hd om⟩,hR,rfl⟩
  | er e a1=>rw[hk,Rr.bind_er]at hR;refine .inr ⟨e,a1,hR.symm,rfl,a1,zMb,s,false,?_,hl384,rfl⟩;exact zo9 hk ha
 ·refine⟨_,rfl,(zo0 H i p n X c hl hi hX hn hp m s a hl384 (hv om) ha).mono (zi8 ?_ ?_)⟩
  ·intro y a1 h;obtain⟨b1,b2,b3,b4⟩:=ziV h ha (hv om);simp only[Rk,zkg,h,Rr.bind_ok]at hR;exact⟨⟨by rw[b2];exact hl384,b1,fun e=>om,fun e=>om,fun _=>by rw[b4.1];exact hq om,fun _=>zlc b4 (hd om)⟩,hR⟩
  ·intro e a1 h;simp only[Rk,zkg,h,Rr.bind_er]at hR;exact⟨a1,hR.symm⟩
 ·refine⟨_,rfl,(zsc H i p n X c hl hi hX hn hp m s a hl384 (hq om) ha).mono (zi8 ?_ ?_)⟩
  ·intro y a1 h;obtain⟨b1,b2,b3⟩:=zgR h ha;simp only[Rk,h,Rr.bind_ok]at hR;refine⟨⟨by rw[b2];exact hl384,b1,fun e=>om,fun e=>om,fun e=>om,fun _ j=> ?_⟩,hR⟩;have:=hd om j;unfold dcS at this ⊢;rw[←b3.1,←b3.2.1,←b3.2.2];exact this
  ·intro e a1 h;simp only[Rk,h,Rr.bind_er]at hR;exact⟨a1,hR.symm⟩
 ·refine⟨_,rfl,(zsb H i p n X c hl hi hX hn hp m s a hl384 ha).mono (zi8 ?_ ?_)⟩
  ·intro y a1 h;cases hc:zbE p n hl m a with
   | er e a2=>rw[hc]at h;cases h
   | ok m' a2=>obtain⟨b1,b2,b3⟩:=ziX hc ha;rw[hc,Rr.bind_ok]at h;injection h with e1 e2;subst e1 e2;simp only[Rk,hc,Rr.bind_ok]at hR;exact⟨⟨by rw[b2];exact hl384,b1,fun e=>om,fun e=>om,fun e=>om,fun _=>hd om⟩,hR⟩
  ·intro e a1 h;cases hc:zbE p n hl m a with
   | ok m' a2=>rw[hc]at h;cases h
   | er e2 a2=>rw[hc]at h;simp only[Rk,hc,Rr.bind_er]at hR;injection h with e1 e2;subst e1;exact⟨a2,hR.symm⟩
 ·refine⟨_,rfl,(zr4 H i p n X c hl hi hX hn hp m s a hl384 (hd om) ha).mono (zi8 ?_ ?_)⟩
  ·intro y a1 h;obtain⟨b1,b2,b3⟩:=zes 6 m s a h ha om hl384;simp only[Rk,h,Rr.bind_ok]at hR;exact⟨⟨b2,b1,fun e=>om,fun e=>om,fun e=>om,fun e=>om⟩,hR⟩
  ·intro e a1 h;simp only[Rk,h,Rr.bind_er]at hR;exact⟨a1,hR.symm⟩
set_option maxHeartbeats 8000000 in
set_option maxRecDepth 100000 in
theorem zqv(i:Nat)(p:List UInt8)(n a:Nat)(c:Cx)(s:St)(H:za)(hA:H[i]? =some (rA p n a))(ha:a≤n)(hn:n≤8 * p.length)(hp:p.length≤100000000):
  CallEx Tryz.prog 111 [.ptr i 0 0,.agg (cxc c),.agg (stc s)] H (zwY H i p n (zdp c s p n a)):=by
 have hi:=(List.getElem?_eq_some_iff.1 hA).1;have hself:=zO hA;have c1:=zdT c;have c2:=zko s;have vo:=fun K=>zuq c K;have so:=fun K=>zrW s K;have tk1:qB 4 (cxc c)=cxc c:=rfl;have tk2:qB 8 (stc s)=stc s:=rfl;have l1:(cxc c).length=4:=rfl;have l2:(stc s).length=8:=rfl;have hx:=fun K=>zb0 (K:=K) hA;have hzl:=zcP;have hzc:=zeF;have tz:qB 408 zmv=zmv:=qH om;have dz:qL 408 zmv=[]:=qO om;have hrv:rA p n a=rA p n a:=rfl;have rv0:∀ a,(rA p n a).ver=0:=fun _=>rfl;generalize hres:zdp c s p n a=res;refine CallEx.body (F0:=[(0,.ptr i 0 0),(1,.agg (cxc c)),(2,.agg (stc s))]) Tryz.func111 rfl Tryz.ntmps111 Tryz.results111 rfl kr rfl ?_;refine PW.f (fun K k=>by simp(disch:=omega) only[go_sem,↓reduceIte,reduceCtorEq,c1,c2,↓ziK,qX];exact k) ?_;unfold zdp at hres;suffices hrest:PW Tryz.prog _ _ [(0,.ptr i 0 0),(4,.ptr H.length 0 0),(5,.ptr (H.length+1) 0 0),(6,.ptr (H.length+2) 0 0),(7,.ptr (H.length+3) 0 0),(25,.bool (!(vcx c&&zft s)))] (H++[⟨152,0,cxc c⟩,⟨206,0,stc s⟩,⟨149,0,zmv⟩,⟨206,0,stc zSt⟩]) _ by
  cases hv:vcx c with
  | false=>
   rw[hv]at vo hrest;(repeat refine PW.seq ?_);refine PW.rg rfl fun K hK=> ?_;simp(disch:=omega) only[go_sem,↓reduceIte,reduceCtorEq,hx,rv0,tk1,l1];refine VCx.call (vo _) rfl ?_;simp(disch:=omega) only[go_sem,↓reduceIte,reduceCtorEq];refine hK _ _ ?_;clear hK K;exact PW.at [0,4,5,6,7,25] hrest rfl rfl
  | true=>rw[hv]at vo hrest;(repeat refine PW.seq ?_);refine PW.rg rfl fun K hK=> ?_;simp(disch:=omega) only[go_sem,↓reduceIte,reduceCtorEq,hx,rv0,tk1,l1];refine VCx.call (vo _) rfl ?_;simp(disch:=omega) only[go_sem,↓reduceIte,reduceCtorEq,tk2,l2];refine VCx.call (so _) rfl ?_;simp(disch:=omega) only[go_sem,↓reduceIte,reduceCtorEq];refine hK _ _ ?_;clear hK K;exact PW.at [0,4,5,6,7,25] hrest rfl rfl
 cases hval:(vcx c&&zft s)with
 | false=>
  rw[hval,if_neg (by decide)]at hres;refine PW.t ?_;refine PW.f (fun K k=>by simp(disch:=omega) only[go_sem,↓reduceIte,reduceCtorEq,↓ziK,hzl,hzc,tz,dz,stc];exact k) ?_;refine PW.ret ⟨.tup [.agg zmv,.agg (stc zSt),.int .i64 1],by simp(disch:=omega) only[go_sem,↓reduceIte,reduceCtorEq,zr,zF,List.mapM_cons,List.mapM_nil,Option.pure_def,qY,Option.bind_some,Array.toList,hzl,tz,stc,zSt],?_⟩;rw[←hres];have:=zlA H i p n a [⟨152,0,cxc c⟩,⟨206,0,stc s⟩,⟨149,0,zmv⟩,⟨206,0,stc zSt⟩] (.er 0 a) ha;rw[hself]at this;exact this
 | true=>
  rw[hval,if_pos rfl]at hres;rw[qK]at hval;obtain⟨hq,hv,hd⟩:=zmy hval.2;refine PW.us ?_;refine PW.f (fun K k=>by simp(disch:=omega) only[go_sem,↓reduceIte,reduceCtorEq,↓ziK];exact k) ?_;refine PW.f (fun K k=>by simp(disch:=omega) only[go_sem,↓reduceIte,reduceCtorEq,tk1,tk2,l1,l2,cxc,stc];exact k) ?_;obtain⟨X,hXe⟩:∃ X:za,X=[⟨152,0,cxc c⟩,⟨206,0,stc s⟩,⟨149,0,zmv⟩,⟨206,0,stc zSt⟩]:=⟨_,rfl⟩;have hX:X.length=4:=by rw[hXe];rfl
  refine PW.at [0,4,5,6,7,9,10] (F1:=[(0,.ptr i 0 0),(4,.ptr H.length 0 0),(5,.ptr (H.length+1) 0 0),(6,.ptr (H.length+2) 0 0),(7,.ptr (H.length+3) 0 0),(9,.ptr (H.length+4) 0 0),(10,.ptr (H.length+5) 0 0)]) (H1:=tG H i p n a X (mB zMb) (tB s i c (H.length+4) false)) ?_ rfl (by unfold tG;rw[hself,hXe];rfl);have nf:(pvc Value.nilFunc).cells=[.nl 0]:=rfl;have hS:Sd n 0 zMb s false a:=⟨zai,ha,fun _=>⟨rfl,rfl⟩,fun _=>hv,fun _=>hq,fun _=>hd⟩;refine PW.g nf ?_;refine PW.l ?_;suffices hl1:∀(k:Nat) (m:Mb) (s:St) (hl:Bool) (a:Nat),k≤5→Sd n k m s hl a→Rk c p n k m s hl a=res→PL Tryz.prog _ _ [(6,.ptr (H.length+2) 0 0),(7,.ptr (H.length+3) 0 0),(9,.ptr (H.length+4) 0 0),(10,.ptr (H.length+5) 0 0),(32,.slice prts 5 true),(33,.int .i64 5),(34,.int .i64 (k:Int))] (tG H i p n a X (mB m) (tB s i c (H.length+4) hl)) _ by exact PL.at [6,7,9,10,32,33,34] (hl1 0 zMb s false a om hS hres) rfl rfl
  clear hres hS hv hq hd;have hpl:prts.length=5:=rfl;have gE:∀ m s hl a,(tG H i p n a X (mB m) (tB s i c (H.length+4) hl))[H.length+2]? =some ⟨149,0,zmv⟩∧(tG H i p n a X (mB m) (tB s i c (H.length+4) hl))[H.length+3]? =some ⟨206,0,stc zSt⟩:=fun m s hl a=>by unfold tG;rw[hXe];exact⟨by rw[qC sp,qA,show H.length+2 - H.length=2 from om];rfl,by rw[qC sp,qA,show H.length+3 - H.length=3 from om];rfl⟩
  have ao:=fun s k K=>zv1 s k K;intro k m s hl a hk hS hR;induction hd:5 - k using qW generalizing k m s hl a with
  | _ d ih=>
   refine PL.round ?_;refine PW.e ?_;refine PW.c (fun h=> ?_) (fun h=> ?_)
   ·have h5:k<5:=ot h;obtain⟨f,hf,hc⟩:=disp H i p n X c hi hX hn hp k h5 m s hl a res hS hR;refine PW.skip ?_;refine PW.b ?_;refine PW.g (nq2 hf hpl) ?_;(repeat refine PW.seq ?_);refine PW.rg rfl fun K hK=> ?_;simp(disch:=omega) only[go_sem,↓reduceIte,reduceCtorEq];refine VCx.callR hc rfl fun v H' hQ=> ?_;rcases hQ with⟨m',s',hl',a',rfl,hS',hR',rfl⟩|⟨e,a0,hre,rfl,a',m',s',hl',ha',hml',rfl⟩
    ·simp(disch:=omega) only[go_sem,↓reduceIte,reduceCtorEq];refine hK _ _ ?_;clear hK K;refine PW.e ?_;refine PW.us ?_;refine PW.e ?_;exact PL.at [6,7,9,10,32,33,34] (ih (5 - (k+1)) om (k+1) m' s' hl' a' om hS' hR' rfl) rfl rfl
    ·have d0:((e:Int)+1 !=0)=true:=by simp;omega
     obtain⟨ge1,ge2⟩:=gE m' s' hl' a';have se1:=zO ge1;have se2:=zO ge2;have lst:(stc zSt).length=8:=rfl;simp(disch:=omega) only[go_sem,↓reduceIte,reduceCtorEq,ecd];refine hK _ _ ?_;clear hK K;refine PW.g d0 ?_;refine PW.t ?_;refine PW.f (fun K k=>by simp(disch:=omega) only[go_sem,↓reduceIte,reduceCtorEq,↓ziK,ge1,ge2,hzl,hzc,dz,lst,se1];exact k) ?_;refine PW.at [6,7,8] (F1:=[(6,.ptr (H.length+2) 0 0),(7,.ptr (H.length+3) 0 0),(8,.int .i64 ((e:Int)+1))]) (H1:=tG H i p n a' X (mB m') (tB s' i c (H.length+4) hl')) ?_ rfl se2;have tst:qB 8 (stc zSt)=stc zSt:=rfl;refine PW.w (.tup [.agg zmv,.agg (stc zSt),.int .i64 ((e:Int)+1)]) (nq2 ge1 (nq2 ge2 (nq2 hzl (nq2 tz (nq2 lst tst))))) ?_;rw[hre];exact zlA H i p n a' (X++[mB m',tB s' i c (H.length+4) hl']) (.er e a0) ha'
   ·have h5:k=5:=ofF h;subst h5;refine PW.exit ?_;simp only[Rk]at hR;have ml:=hS.l;have hlm:=zw m ml;have htm:qB 408 (mbc m)=mbc m:=qH om;have hcm:=zdI m;have g5:=fun B4 B5=>ziY H i p n a X B4 B5 hX;have g4:=fun B4 B5=>zkm H i p n a X B4 B5 hX;obtain⟨ge1,ge2⟩:=gE m s hl a;have gX2:=fun Y B4 B5 B hY=>ztJ H i p n a Y B4 B5 B 2 hY om;have gX3:=fun Y B4 B5 B hY=>ztJ H i p n a Y B4 B5 B 3 hY om;have tcs:qB 8 (tC s i c (H.length+4) hl)=stc s:=rfl;have lst:∀ t,(stc t).length=8:=fun _=>rfl;have cst:∀ t,(stc t).all PV.cell=true:=fun _=>rfl;have ao1:=fun K=>ao s m.k K;have e3:(tG H i p n a (X.set 2 (mB m)) (mB m) (tB s i c (H.length+4) hl))[H.length+3]? =some ⟨206,0,stc zSt⟩:=by rw[zpi _ _ _ _ _ _ _ _ _ (by rw[qA];exact hX) om,hXe];rfl
    have hw2:=gX2 X (mB m) (tB s i c (H.length+4) hl) (mB m) hX;have hw3:=gX3 (X.set 2 (mB m)) (mB m) (tB s i c (H.length+4) hl) ⟨206,0,stc (aft s m.k)⟩ (by rw[qA];exact hX);have dst:qL 8 (stc zSt)=[]:=rfl;(repeat refine PW.seq ?_);refine PW.draw mix kr fun K hK=> ?_;simp(disch:=omega) only[go_sem,↓reduceIte,reduceCtorEq,g5,g4,zA,zC,zaC,zaG,zdn,hlm,htm,tcs,zah];refine VCy.call (ao1 _) rfl ?_;simp(disch:=omega) only[go_sem,↓reduceIte,reduceCtorEq,ge1,ge2,hzl,dz,hlm,hcm,zba,hw2,e3,lst,cst,dst,hw3];refine hK _ _ ?_;clear hK K;have hX2:((X.set 2 (mB m)).set 3 ⟨206,0,stc (aft s m.k)⟩).length=4:=by rw[qA,qA];exact hX
    have f2:(tG H i p n a ((X.set 2 (mB m)).set 3 ⟨206,0,stc (aft s m.k)⟩) (mB m) (tB s i c (H.length+4) hl))[H.length+2]? =some (mB m):=by rw[zpi _ _ _ _ _ _ _ _ _ hX2 om,hXe];rfl
    have f3:(tG H i p n a ((X.set 2 (mB m)).set 3 ⟨206,0,stc (aft s m.k)⟩) (mB m) (tB s i c (H.length+4) hl))[H.length+3]? =some ⟨206,0,stc (aft s m.k)⟩:=by rw[zpi _ _ _ _ _ _ _ _ _ hX2 om,hXe];rfl
    have tst:∀ t,qB 8 (stc t)=stc t:=fun _=>rfl;refine PW.ret ⟨.tup [.agg (mbc m),.agg (stc (aft s m.k)),.int .i64 0],by simp(disch:=omega) only[go_sem,↓reduceIte,reduceCtorEq,zr,zF,List.mapM_cons,List.mapM_nil,Option.pure_def,qY,Option.bind_some,Array.toList,f2,f3,zaC,zaG,hlm,htm,lst,tst],?_⟩;rw[←hR];exact zlA H i p n a (((X.set 2 (mB m)).set 3 ⟨206,0,stc (aft s m.k)⟩)++[mB m,tB s i c (H.length+4) hl]) (.ok (m,aft s m.k) a) rfl
def tz8(b:Nat):Nat:=if b%2≠0 then 0 else if b%4≠0 then 1 else if b%8≠0 then 2 else if b%16≠0 then 3 else if b%32≠0 then 4 else if b%64≠0 then 5 else if b%128≠0 then 6 else if b%256≠0 then 7 else 8
theorem zj9:∀ b<256,b=0∨(tz8 b<8∧b / 2^tz8 b%2=1∧∀ j<8,tz8 b≤j∨b / 2^j%2=0):=by decide+kernel
def zt6(r:Option Res)(v:Nat):Bool:=match r with
 | some (.val (.int .i64 n) [])=>n==(v:Int)
 | _=>false
theorem zux:∀ b:Nat,b<256→zt6 (ziB Tryz.prog 100 (.call 177 [.int .u8 (b:Int)] [])) (tz8 b)=true:=by decide+kernel
theorem zwm(b:Nat)(hb:b<256)(H:za):CallOk Tryz.prog 177 [.int .u8 (b:Int)] H (.int .i64 (tz8 b:Int)) H:=by
 refine CallOk.eval 100 ?_ ?_
 ·have h:=zux b hb;unfold zt6 at h;split at h
  ·rename_i he;rw[he,eq_of_beq h]
  ·cases h
 ·intro x hx;simp only[qG,qJ,or_false]at hx;rw[hx];exact .int _ _
def zaD(q:List UInt8):Nat:=(q.getD (q.length - 1) 0).toNat
def nb(q:List UInt8):Nat:=8 * q.length - 1 - tz8 (zaD q)
theorem zqs(q:List UInt8)(f:Bool)(H:za)(hl:q.length≤100000000)(hb:q.length=0∨zaD q=0):
  CallOk Tryz.prog 108 [.slice (bs q) q.length f] H (.tup [.nilp,.int .i64 3]) H:=by
 refine CallOk.go Tryz.func108 Tryz.ntmps108 Tryz.results108 ?_;by_cases h0:q.length=0
 ·refine PW.e ?_;(repeat refine PW.seq ?_);refine PW.rg rfl fun K hK=> ?_;simp(disch:=omega) only[go_sem,↓reduceIte,reduceCtorEq,h0];refine hK _ _ ?_;clear hK K;refine PW.c (fun h=> ?_) (fun h=> ?_)
  ·refine PW.e ?_;exact PW.ret ⟨_,rfl,Fin.now⟩
  ·cases h
 ·have e1:(q.length:Int) - 1=((q.length - 1:Nat):Int):=om;have hby:byt q (q.length - 1)=0:=by have:byt q (q.length - 1)=(zaD q:Int):=rfl;omega
  refine PW.e ?_;(repeat refine PW.seq ?_);refine PW.rg rfl fun K hK=> ?_;simp(disch:=omega) only[go_sem,↓reduceIte,reduceCtorEq,e1,zK,zc,hby];refine hK _ _ ?_;clear hK K;refine PW.c (fun h=> ?_) (fun h=> ?_)
  ·refine PW.e ?_;exact PW.ret ⟨_,rfl,Fin.now⟩
  ·cases h
theorem zsO(q:List UInt8)(f:Bool)(H:za)(hl:q.length≤100000000)(hq:q.length≠0)(hb:zaD q≠0):
  CallOk Tryz.prog 108 [.slice (bs q) q.length f] H (.tup [.ptr (H.length+1) 0 0,.int .i64 0]) (H++[⟨5,1,[]⟩,rA q (nb q) 0]):=by
 have e1:(q.length:Int) - 1=((q.length - 1:Nat):Int):=om;have hby:byt q (q.length - 1)=(zaD q:Int):=rfl;have hlt:zaD q<256:=UInt8.toNat_lt _;have htz:tz8 (zaD q)<8:=((zj9 _ hlt).resolve_left hb).1;refine CallOk.go Tryz.func108 Tryz.ntmps108 Tryz.results108 ?_;refine PW.e ?_;refine PW.f (fun K k=>by simp(disch:=omega) only[go_sem,↓reduceIte,reduceCtorEq,e1,zK,zc,hby];exact k) ?_;refine PW.us ?_;refine PW.e ?_;have hcl:(List.replicate q.length [PV.int .u8 0]).flatten.length=q.length:=by simp
 refine PW.to [0,4] [(0,.slice (bs q) q.length f),(4,.ptr (H.length+1) 0 0)] (H++[⟨5,0,bs q⟩,⟨272,0,[.msl H.length 0 0 q.length 1 true,.int .i64 0,.int .i64 0]⟩]) ?_ ?_
 ·refine PW.f (fun K k=>by simp(disch:=omega) only[go_sem,↓reduceIte,reduceCtorEq,zc,hcl];exact k) ?_;refine⟨rfl,?_⟩;have htk:qB q.length (bs q)=bs q:=qH (by rw[zc];exact qT _);simp[zab,zaK,zc,htk]
 refine PW.view (Vs.frzCell (id:=H.length) (id':=H.length+1) (j:=0) (hp0 _ _ _) (hp1 _ _ _ _) om rfl (by simp[zc])) ?_;simp only[hs0,hs1,List.set_cons_zero];refine PW.f (fun K k=>by simp(disch:=omega) only[go_sem,↓reduceIte,reduceCtorEq,zc,e1,zK,hby];refine VCx.call (zwm _ hlt _) rfl ?_;simp(disch:=omega) only[go_sem,↓reduceIte,reduceCtorEq,zc,e1,zK,hby];exact k) ?_;refine PW.e ?_;have e2:8 * (q.length:Int) - 1 - (tz8 (zaD q):Int)=(nb q:Int):=by unfold nb;omega
 refine PW.ret ⟨_,rfl,?_⟩;refine .inl ⟨?_,?_⟩
 ·simp[slot,Nat.beq]
 ·rw[e2];rfl
theorem _root_.Go.Proofs.YtpjlfoficnpfoaaGreatDoor.Pm.CallOk.lose{P:Program}{H:za}{f:FuncId}{args:List PV}{v v':PV}{K:za}(h:CallOk P f args H v (H++K))(hz:Fz H.length (H++K) v v'):CallOk P f args H v' H:=
 ⟨h.1,fun C us w hw hu=>(h.2 C us w hw hu).mono fun e w' ⟨C',u,q1,q2,q3,q4,q5⟩=>by
  obtain⟨g1,g2⟩:=WRel.give hw q1 q2;exact⟨_,u,g1,g2,q3,q4,Fz.sound q2 hz q5⟩⟩
theorem zot(V n:Nat)(H:za)(hn:n≤32):CallOk Tryz.prog 191 [.int .u32 (V:Int),.int .i64 (n:Int)] H (.slice (bs (zb (zj V n))) n false) H:=(zaN V n H hn).lose (Fz.mslC (e:=5) (xs:=bs (zb (zj V n))) (qT _) sp (by simp[zc,zP,zm]) (FzC.refl (zo _ _)))
def bl(q:List UInt8):List Bool:=(List.range (8 * q.length)).map fun k=>decide (zN q k=1)
theorem zch(q:List UInt8):(bl q).length=8 * q.length:=by simp[bl]
theorem zxi(q:List UInt8)(k:Nat)(h:k<8 * q.length):bn (bl q) k=zN q k:=by have:=zbV q k;simp[bn,bl,h];have:zN q k=0∨zN q k=1:=om;rcases this with e|e<;>simp[e]
theorem zhW(q:List UInt8)(k:Nat)(h:k<8 * q.length):(bs (zb (bl q)))[k]? =some (.int .u8 (zN q k:Int)):=by rw[zK _ _ (by rw[zP,zch];exact h),zoC _ _ (by rw[zch];exact h),zxi q k h]
theorem zto(q:List UInt8)(k:Nat)(h:k<q.length):bl (q.take (k+1))=bl (q.take k)++zj (q.getD k 0).toNat 8:=by
 apply List.ext_getElem?;intro j;have h1:(q.take (k+1)).length=k+1:=by simp;omega
 have h2:(q.take k).length=k:=by simp;omega
 by_cases hj:j<8 * k
 ·rw[qN (by rw[zch,h2];exact hj)];simp only[bl,qQ];rw[qF om,qF om];simp only[qR,zN,List.getD,List.getElem?_take];rw[if_pos om,if_pos om]
 ·by_cases hj2:j<8 * (k+1)
  ·rw[qC (by rw[zch,h2];omega),zch,h2];simp only[bl,zj,qQ];rw[qF om,qF om];simp only[qR,zN,List.getD,List.getElem?_take];rw[if_pos om,show j / 8=k from om,show 7 - j%8=8 - 1 - (j - 8 * k)from om];rfl
  ·rw[qZ (by rw[zch,h1];omega),qZ (by rw[qM,zch,h2,zm];omega)]
theorem zfu(q:List UInt8)(r:Nat)(hq:q.length≠0)(hr:r<8):zN q (8 * q.length - 1 - r)=zaD q / 2^r%2:=by unfold zN zaD;rw[show(8 * q.length - 1 - r) / 8=q.length - 1 from om,show 7 - (8 * q.length - 1 - r)%8=r from om]
theorem zjq(q:List UInt8)(hq:q.length≠0)(hb:zaD q≠0):zN q (nb q)=1∧nb q<8 * q.length∧∀ j,nb q<j→j<8 * q.length→zN q j=0:=by
 have hlt:zaD q<256:=UInt8.toNat_lt _;obtain⟨h1,h2,h3⟩:=(zj9 _ hlt).resolve_left hb;refine⟨?_,by unfold nb;omega,fun j hj hj2=> ?_⟩
 ·rw[nb,zfu q _ hq h1,h2]
 ·unfold nb at hj;have:=zfu q (8 * q.length - 1 - j) hq om;rw[show 8 * q.length - 1 - (8 * q.length - 1 - j)=j from om]at this;rw[this];exact(h3 _ om).resolve_left om
theorem zr0(l:List Bool)(k:Nat)(h:k / 8<(l.length+7) / 8):zN (pk l) k=bn l k:=by
 have h1:((pk l).getD (k / 8) 0).toNat=pkN l (k / 8):=by have:=zp8 l (k / 8) h;simp only[byt]at this;omega
 unfold zN;rw[h1];obtain⟨i,r,rfl,hr⟩:∃ i r,k=8 * i+r∧r<8:=⟨k / 8,k%8,om,om⟩;rw[show(8 * i+r) / 8=i from om,show(8 * i+r)%8=r from om];unfold pkN;have b0:=zbU l (8 * i);have b1:=zbU l (8 * i+1);have b2:=zbU l (8 * i+2);have b3:=zbU l (8 * i+3);have b4:=zbU l (8 * i+4);have b5:=zbU l (8 * i+5);have b6:=zbU l (8 * i+6);have b7:=zbU l (8 * i+7);have h3:r=0∨r=1∨r=2∨r=3∨r=4∨r=5∨r=6∨r=7:=om;rcases h3 with rfl|rfl|rfl|rfl|rfl|rfl|rfl|rfl;all_goals(simp only[Nat.reduceSub,Nat.reducePow,Nat.add_zero];omega)
theorem zmz(q:List UInt8)(a n V:Nat)(h:∀ i<n,zN q (a+i)=V / 2^(n - 1 - i)%2):∀ k≤n,vl q a k=V / 2^(n - k)%2^k
 | 0,_=>by simp[vl,Nat.mod_one]
 | k+1,hk=>by rw[vl,zmz q a n V h k om,h k om,show n - k=(n - 1 - k)+1 from om,show n - (k+1)=n - 1 - k from om,Nat.pow_succ 2 (n - 1 - k),←Nat.div_div_eq_div_mul,Nat.pow_succ 2 k,Nat.mul_comm (2^k) 2,Nat.mod_mul];omega
theorem zup(q:List UInt8)(a n V:Nat)(hV:V<2^n)(h:∀ i<n,zN q (a+i)=V / 2^(n - 1 - i)%2):vl q a n=V:=by rw[zmz q a n V h n (qT _),qI,Nat.pow_zero,Nat.div_one,Nat.mod_eq_of_lt hV]
theorem znp(l m:List Bool)(k:Nat)(h:k<l.length):bn (l++m) k=bn l k:=by unfold bn;rw[qN h]
theorem zli(l m:List Bool)(k:Nat)(h:l.length≤k):bn (l++m) k=bn m (k - l.length):=by unfold bn;rw[qC h]
theorem zrt(V n i:Nat)(h:i<n):bn (zj V n) i=V / 2^(n - 1 - i)%2:=by unfold bn zj;rw[qQ,qF h,qR,Option.getD_some,ziG]
theorem zlV(L:List Bool):(pk (L++[true])).length≠0∧zaD (pk (L++[true]))≠0∧nb (pk (L++[true]))=L.length∧L.length≤8 * (pk (L++[true])).length∧∀ k,k<L.length→zN (pk (L++[true])) k=bn L k:=by
 have hl:(L++[true]).length=L.length+1:=by simp
 have hlen:(pk (L++[true])).length=(L.length+8) / 8:=by rw[zaf,hl]
 have hu:∀ k,k<8 * ((L.length+8) / 8)→zN (pk (L++[true])) k=bn (L++[true]) k:=fun k hk=>zr0 _ k (by rw[hl];omega);have h1:zN (pk (L++[true])) L.length=1:=by rw[hu _ om,zli _ _ _ (qT _),qI];rfl
 have hq:(pk (L++[true])).length≠0:=om;have hb:zaD (pk (L++[true]))≠0:=fun e=>by have:=zfu (pk (L++[true])) (8 * (pk (L++[true])).length - 1 - L.length) hq om;rw[e,Nat.zero_div,show 8 * (pk (L++[true])).length - 1 - (8 * (pk (L++[true])).length - 1 - L.length)=L.length from om,h1]at this;omega
 obtain⟨n1,n2,n3⟩:=zjq _ hq hb;refine⟨hq,hb,?_,om,fun k hk=>by rw[hu k om,znp _ _ _ hk]⟩;rcases Nat.lt_trichotomy (nb (pk (L++[true]))) L.length with h|h|h
 ·have:=n3 _ h om;omega
 ·exact h
 ·have h2:=hu _ (by omega:nb (pk (L++[true]))<_);rw[n1,zaH _ _ (by rw[hl];omega)]at h2;omega
theorem zjr(l:List Mb)(n:Nat):∀ x∈l.flatMap mbc,Scoped n x:=fun x hx=>by obtain⟨m,_,hx⟩:=List.mem_flatMap.1 hx;simp only[mbc,qG]at hx;rcases hx with rfl|rfl|rfl|rfl|rfl|rfl|rfl|rfl|rfl|rfl|rfl|rfl|rfl|rfl|rfl|rfl|rfl|rfl|rfl|rfl|rfl|rfl|rfl|rfl|hx;all_goals first|exact .int _ _|exact .bool _|exact zcH _ _ _ hx
theorem zwW{c:Cx}{q:List UInt8}{n a:Nat}{s:St}{y:Mb×St}{a1:Nat}(h:mtk c s q n a= .ok y a1)(ha:a≤n)(hs:vrS s):a1≤n∧y.1.lv.length=384:=by
 unfold mtk at h;cases h1:zbW c q n a with
 | er e a2=>rw[h1]at h;cases h
 | ok x a2=>
  obtain⟨b1,b2⟩:=ziW h1 ha;rw[h1,Rr.bind_ok]at h;unfold zkg at h;cases h2:zbD c q n x.1 s a2 with
  | er e a3=>rw[h2]at h;cases h
  | ok y2 a3=>
   obtain⟨c1,c2,_⟩:=ziV h2 b1 hs;rw[h2,Rr.bind_ok]at h;cases h3:zbP c q n x.2 y2.1 y2.2 a3 with
   | er e a4=>rw[h3]at h;cases h
   | ok y3 a4=>
    obtain⟨d1,d2,_⟩:=zgR h3 c1;rw[h3,Rr.bind_ok]at h;cases h4:zbE q n x.2 y3.1 a4 with
    | er e a5=>rw[h4]at h;cases h
    | ok y4 a5=>
     obtain⟨e1,e2,_⟩:=ziX h4 d1;rw[h4,Rr.bind_ok]at h;cases h5:zaS q n 6 y4 y3.2 a5 with
     | er e a6=>rw[h5]at h;cases h
     | ok y5 a6=>obtain⟨f1,f2,_⟩:=zes 6 y4 y3.2 a5 h5 e1 om (by rw[e2,d2,c2,b2];exact zai);rw[h5,Rr.bind_ok]at h;injection h with g1 g2;subst g1 g2;exact⟨f1,f2⟩
theorem zqu{c:Cx}{q:List UInt8}{n a:Nat}{s:St}{y:Mb×St}{a1:Nat}(h:zdp c s q n a= .ok y a1)(ha:a≤n):a1≤n∧y.1.lv.length=384:=by
 unfold zdp at h;split at h
 ·rename_i hv;rw[qK]at hv;exact zwW h ha (zmy hv.2).2.1
 ·cases h
def slL(c:Cx)(q:List UInt8)(n:Nat):Nat→St→Nat→Rr (List Mb×St)
 | 0,s,a=>.ok ([],s) a
 | r+1,s,a=>(zdp c s q n a).bind fun y a1=>(slL c q n r y.2 a1).bind fun z a2=>.ok (y.1::z.1,z.2) a2
def wmb(s:Sq):Nat:=(s.w.tdiv 16).toNat
def slT(s:Sq)(p:Pi)(b:Bool)(t:Int)(q:List UInt8):Rr (Nat×List Mb):=
 if zdq s p b&&(decide (1≤t)&&decide (t<1+zS s p))then
  (if q.length=0∨zaD q=0 then .er 2 0 else if nb q<5 then .er 3 0 else if vl q 0 5=0 then .er 2 0 else
   (slL (cxP s p b) q (nb q) (wmb s) (st0 (vl q 0 5:Int)) 5).bind fun z a=>if a=nb q then .ok (vl q 0 5,z.1) a else .er 2 a)else .er 0 0
def rvT:Rr (Nat×List Mb)→PV
 | .ok x _=>.tup [.int .i64 (x.1:Int),.slice (x.2.flatMap mbc) x.2.length false,.int .i64 0]
 | .er e _=>.tup [.int .i64 0,.slice [] 0 true,ecd e]
def zrp(r:Nat):List PV:=(List.replicate r zmv).flatten
theorem zjW(r:Nat):zrp (r+1)=zmv++zrp r:=by simp[zrp,List.replicate_succ]
theorem zms:∀ r,(zrp r).length=r * 408
 | 0=>by simp[zrp]
 | r+1=>by rw[zjW,qM,zms r,zcP];omega
theorem zr5{D:List Mb}{m:Mb}(hD:∀ x∈D,x.lv.length=384)(k r:Nat)(hk:D.length=k):qB (k * 408) (D.flatMap mbc++zrp (r+1))++(mbc m++qL (k * 408+408) (D.flatMap mbc++zrp (r+1)))=(D++[m]).flatMap mbc++zrp r:=by have hl:=zaW mbc 408 D (fun x hx=>zw x (hD x hx));rw[hk]at hl;rw[List.take_left' hl,List.drop_append,qO om,hl,show k * 408+408 - k * 408=408 from om,zjW,qU,List.drop_left' zcP,List.flatMap_append];simp
theorem zrj{D:List Mb}(hD:∀ x∈D,x.lv.length=384)(k r:Nat)(hk:D.length=k):(D.flatMap mbc++zrp r).length=(k+r) * 408:=by rw[qM,zaW mbc 408 D (fun x hx=>zw x (hD x hx)),hk,zms,Nat.add_mul]
def sH(H:za)(s:Sq)(p:Pi)(t:Int)(q:List UInt8)(f:Bool)(n a:Nat)(c:Cx)(st:St)(B:List PV):za:=H++[⟨29,0,sqc s⟩,⟨35,0,pic p⟩,⟨58,0,[.int .i64 t,.slice (bs q) q.length f]⟩,⟨5,1,[]⟩,rA q n a,⟨152,0,cxc c⟩,⟨206,0,stc st⟩,⟨149,0,B⟩]
theorem zow(n:Nat)(v e:Int):Scoped n (.tup [.int .i64 v,.slice [] 0 true,.int .i64 e]):=.tup (zbf fun x hx=>by
 simp only[qG,qJ,or_false]at hx;rcases hx with rfl|rfl|rfl
 ·exact .int _ _
 ·exact zl (fun x hx=>by cases hx)
 ·exact .int _ _)
set_option maxHeartbeats 8000000 in
set_option maxRecDepth 100000 in
theorem zpq(s:Sq)(p:Pi)(b:Bool)(t:Int)(q:List UInt8)(f:Bool)(H:za)(hs:SqOk s)(ht:zfP t)(hq:q.length≤100000000):
  CallOk Tryz.prog 54 [.agg (sqc s),.agg (pic p),.bool b,.agg [.int .i64 t,.slice (bs q) q.length f]] H (rvT (slT s p b t q)) H:=by
 have fo:=fun K=>zs8 s p b K hs;have ro:=fun K=>zkz s p K hs;have co:=fun K=>zvQ s p b K hs;have so:=fun v K=>zpm v K;have h1:=zaT s;have h2:=zaP s hs;have h3:=zdx s hs;have h4:=ztL s;have p6:(pic p).length=6:=rfl;have t6:qB 6 (pic p)=pic p:=rfl;have l8:∀ t,(stc t).length=8:=fun _=>rfl;have c8:∀ t,(stc t).all PV.cell=true:=fun _=>rfl;have tk8:∀ t,qB 8 (stc t)=stc t:=fun _=>rfl;have dk8:∀ t,qL 8 (stc t)=[]:=fun _=>rfl;have c4:∀ c,(cxc c).all PV.cell=true:=fun _=>rfl;have l4:∀ c,(cxc c).length=4:=fun _=>rfl;have tk4:∀ c,qB 4 (cxc c)=cxc c:=fun _=>rfl;have dk4:∀ c,qL 4 (cxc c)=[]:=fun _=>rfl;generalize hres:slT s p b t q=res;unfold slT at hres;refine CallOk.go Tryz.func54 Tryz.ntmps54 Tryz.results54 ?_;refine PW.f (fun K k=>by simp(disch:=omega) only[go_sem,↓reduceIte,reduceCtorEq,h1,pic];exact k) ?_;suffices hrest:PW Tryz.prog _ _ [(0,.agg (sqc s)),(1,.agg (pic p)),(2,.bool b),(4,.ptr H.length 0 0),(5,.ptr (H.length+1) 0 0),(7,.ptr (H.length+2) 0 0),(36,.bool (!(zdq s p b&&(decide (1≤t)&&decide (t<1+zS s p)))))] (H++[⟨29,0,sqc s⟩,⟨35,0,pic p⟩,⟨58,0,[.int .i64 t,.slice (bs q) q.length f]⟩]) _ by
  cases hf:zdq s p b with
  | false=>
   rw[hf]at fo hrest;(repeat refine PW.seq ?_);refine PW.draw mix kr fun K hK=> ?_;simp(disch:=omega) only[go_sem,↓reduceIte,reduceCtorEq,h2,h3];refine VCy.call (fo _) rfl ?_;simp(disch:=omega) only[go_sem,↓reduceIte,reduceCtorEq];refine hK _ _ ?_;clear hK K;exact PW.at [0,1,2,4,5,7,36] hrest rfl rfl
  | true=>
   rw[hf]at fo hrest;rw[Bool.true_and]at hrest;by_cases ht1:1≤t
   ·have d1:decide (t<1)=false:=decide_eq_false om;have hpr:0≤zS s p∧zS s p≤4:=by
     unfold zS;split
     ·rename_i hv;have:=zb8 hv;split
      ·have:=qD (a:=s.h) (b:=16) om;omega
      ·have:=qD (a:=s.h) (b:=32) om;omega
     ·omega
    have d2:decide (1+zS s p≤t)= !decide (t<1+zS s p):=by
     by_cases h:t<1+zS s p
     ·rw[decide_eq_true h,decide_eq_false om];rfl
     ·rw[decide_eq_false h,decide_eq_true om];rfl
    rw[decide_eq_true ht1,Bool.true_and,←d2]at hrest;(repeat refine PW.seq ?_);refine PW.draw mix kr fun K hK=> ?_;simp(disch:=omega) only[go_sem,↓reduceIte,reduceCtorEq,h2,h3];refine VCy.call (fo _) rfl ?_;simp(disch:=omega) only[go_sem,↓reduceIte,reduceCtorEq,d1,h2,h3];refine VCy.call (ro _) rfl ?_;simp(disch:=omega) only[go_sem,↓reduceIte,reduceCtorEq];refine hK _ _ ?_;clear hK K;exact PW.at [0,1,2,4,5,7,36] hrest rfl rfl
   ·have d1:decide (t<1)=true:=decide_eq_true om;rw[decide_eq_false ht1,Bool.false_and]at hrest;(repeat refine PW.seq ?_);refine PW.draw mix kr fun K hK=> ?_;simp(disch:=omega) only[go_sem,↓reduceIte,reduceCtorEq,h2,h3];refine VCy.call (fo _) rfl ?_;simp(disch:=omega) only[go_sem,↓reduceIte,reduceCtorEq,d1];refine hK _ _ ?_;clear hK K;exact PW.at [0,1,2,4,5,7,36] hrest rfl rfl
 cases hc:(zdq s p b&&(decide (1≤t)&&decide (t<1+zS s p)))with
 | false=>
  rw[hc,if_neg (by decide)]at hres;refine PW.t ?_;refine PW.e ?_;refine PW.v (.tup [.int .i64 0,.slice [] 0 true,.int .i64 1]) ?_;rw[←hres];exact Fin.base (.id (zow _ _ _))
 | true=>
  rw[hc,if_pos rfl]at hres;rw[qK]at hc;have hw:1≤wmb s∧wmb s≤4∧s.w.tdiv 16=((wmb s:Nat):Int):=by
   have hv:zH s p=true:=by have:=hc.1;unfold zdq at this;rw[qK]at this;exact this.1
   have:=zb8 hv;have e:=qD (a:=s.w) (b:=16) om;unfold wmb;omega
  clear fo ro hc;refine PW.us ?_;by_cases hb:q.length=0∨zaD q=0
  ·rw[if_pos hb]at hres;have nr:=fun K=>zqs q f K hq hb;refine PW.k nr ?_;refine PW.e ?_;refine PW.t ?_;refine PW.e ?_;refine PW.v (.tup [.int .i64 0,.slice [] 0 true,.int .i64 3]) ?_;rw[←hres];exact Fin.base (.id (zow _ _ _))
  rw[if_neg hb]at hres;obtain⟨hb1,hb2⟩:=not_or.1 hb;have nr:=fun K=>zsO q f K hq hb1 hb2;obtain⟨_,n2,_⟩:=zjq q hb1 hb2;generalize nb q=n at *;refine PW.k nr ?_;refine PW.e ?_;refine PW.us ?_;have gr:=fun a X=>(apn H ([⟨29,0,sqc s⟩,⟨35,0,pic p⟩,⟨58,0,[.int .i64 t,.slice (bs q) q.length f]⟩,⟨5,1,[]⟩,rA q n a]++X) 4);by_cases h5:n<5
  ·rw[if_pos h5]at hres;have tk:=zbG (H.length+4) q n 0 5 _ (gr 0 []) om om om om;refine PW.f (fun K k=>by simp(disch:=omega) only[go_sem,↓reduceIte,reduceCtorEq];refine VCx.call (tk) rfl ?_;simp(disch:=omega) only[go_sem,↓reduceIte,reduceCtorEq];exact k) ?_;refine PW.e ?_;refine PW.t ?_;refine PW.e ?_;refine PW.v (.tup [.int .i64 0,.slice [] 0 true,.int .i64 4]) ?_;rw[←hres];exact Fin.base (.id (zow _ _ _))
  rw[if_neg h5]at hres;have tk:=zdB (H.length+4) q n 0 5 _ (gr 0 []) om om om om;rw[aps]at tk;simp only[qV,List.cons_append,qU,List.set_cons_succ,List.set_cons_zero,Nat.zero_add]at tk;have hvl:=zf6 q 0 5;generalize vl q 0 5=v at *;refine PW.f (fun K k=>by simp(disch:=omega) only[go_sem,↓reduceIte,reduceCtorEq];refine VCx.call (tk) rfl ?_;simp(disch:=omega) only[go_sem,↓reduceIte,reduceCtorEq];exact k) ?_;refine PW.e ?_;refine PW.us ?_;by_cases hv0:v=0
  ·rw[if_pos hv0]at hres;have d1:((v:Int)==0)=true:=by simp[hv0]
   refine PW.g d1 ?_;refine PW.t ?_;refine PW.e ?_;refine PW.v (.tup [.int .i64 0,.slice [] 0 true,.int .i64 3]) ?_;rw[←hres];exact Fin.base (.id (zow _ _ _))
  rw[if_neg hv0]at hres;have d1:((v:Int)==0)=false:=by rw[beq_eq_false_iff_ne];omega
  refine PW.g d1 ?_;refine PW.us ?_;have co1:=fun K=>co K;have so1:=fun K=>so (v:Int) K;generalize cxP s p b=c at *;(repeat refine PW.seq ?_);refine PW.rg rfl fun K hK=> ?_;simp(disch:=omega) only[go_sem,↓reduceIte,reduceCtorEq,h2,h3,p6,t6];refine VCx.call (co1 _) rfl ?_;simp(disch:=omega) only[go_sem,↓reduceIte,reduceCtorEq];refine VCx.call (so1 _) rfl ?_;simp(disch:=omega) only[go_sem,↓reduceIte,reduceCtorEq,l8,c8,dk8,l4,c4,dk4,qX];refine hK _ _ ?_;clear hK K;obtain⟨w1,w2,w3⟩:=hw;generalize wmb s=w at *;refine PW.f (fun K k=>by simp(disch:=omega) only[go_sem,↓reduceIte,reduceCtorEq,h4,h2,w3,↓ziK,zcP];exact k) ?_;refine PW.at [11,13,14,15,16] (F1:=[(11,.ptr (H.length+4) 0 0),(13,.int .u32 (v:Int)),(14,.ptr (H.length+5) 0 0),(15,.ptr (H.length+6) 0 0),(16,.msl (H.length+7) 0 0 w 408 true)]) (H1:=sH H s p t q f n 5 c (st0 v) (zrp w)) ?_ (by simp[kp,slot,Nat.beq]) rfl;have gq:=apn H [⟨29,0,sqc s⟩,⟨35,0,pic p⟩,⟨58,0,[.int .i64 t,.slice (bs q) q.length f]⟩,⟨5,1,[]⟩,rA q n 5,⟨152,0,cxc c⟩,⟨206,0,stc (st0 v)⟩,⟨149,0,zrp w⟩] 7;refine PW.f (fun K k=>by simp(disch:=omega) only[go_sem,↓reduceIte,reduceCtorEq,sH,apn];exact k) ?_;refine PW.l ?_;suffices hl1:∀(k:Nat) (D:List Mb) (st:St) (a:Nat),k≤w→D.length=k→(∀ x∈D,x.lv.length=384)→a≤n→((slL c q n (w - k) st a).bind fun z a=>if a=n then Rr.ok (v,D++z.1) a else .er 2 a)=res→
    PL Tryz.prog _ _ [(11,.ptr (H.length+4) 0 0),(13,.int .u32 (v:Int)),(14,.ptr (H.length+5) 0 0),(15,.ptr (H.length+6) 0 0),(16,.msl (H.length+7) 0 0 w 408 true),(68,.int .i64 (w:Int)),(69,.int .i64 (k:Int))] (sH H s p t q f n a c st (D.flatMap mbc++zrp (w - k))) _ by
   exact PL.at [11,13,14,15,16,68,69] (hl1 0 [] (st0 v) 5 om rfl (fun x hx=>by cases hx) om hres) (by simp[kp,slot,Nat.beq]) rfl
  clear hres gr tk nr co1 so1 co so;intro k D st a hk hD hDl ha hres;induction hd:w - k using qW generalizing k D st a with
  | _ d ih=>
   refine PL.round ?_;refine PW.e ?_;refine PW.c (fun h=> ?_) (fun h=> ?_)
   ·have h5k:k<w:=ot h;obtain⟨r,hr⟩:∃ r,d=r+1:=⟨d - 1,om⟩;subst hr;have hr2:w - (k+1)=r:=om;have hcl:=zrj hDl k (r+1) hD;have tkc:=fun m=>zr5 (m:=m) hDl k r hD;rw[hd,slL,Rr.bind_bind]at hres;have mt:=zqv (H.length+4) q n a c st (sH H s p t q f n a c st (D.flatMap mbc++zrp (r+1))) (apn _ _ 4) ha om hq;refine PW.skip ?_;refine PW.b ?_;refine PW.e ?_;(repeat refine PW.seq ?_);refine PW.rg rfl fun K hK=> ?_;simp(disch:=omega) only[go_sem,↓reduceIte,reduceCtorEq,sH,apn,tk4,l4,tk8,l8];unfold sH at mt;refine VCx.callR mt rfl fun v' H' hR=> ?_;obtain⟨rfl,hH⟩:=hR;cases hm:zdp c st q n a with
    | er e a1=>
     rw[hm]at hH hres;obtain⟨a2,_,rfl⟩:=hH;rw[Rr.bind_er]at hres;have d0:((e:Int)+1 !=0)=true:=by simp;omega
     have hzl:=zcP;have hzc:=zeF;simp(disch:=omega) only[go_sem,↓reduceIte,reduceCtorEq,rvM,ecd,apn,aps,hcl,hzl,hzc,l8,c8,dk8];refine hK _ _ ?_;clear hK K;refine PW.g d0 ?_;refine PW.t ?_;refine PW.e ?_;refine PW.v (.tup [.int .i64 0,.slice [] 0 true,.int .i64 ((e:Int)+1)]) ?_;rw[←hres];exact Fin.base (.id (zow _ _ _))
    | ok y a1=>
     rw[hm]at hH hres;subst hH;obtain⟨b1,b2⟩:=zqu hm ha;rw[Rr.bind_ok,Rr.bind_bind]at hres;have m408:=zw y.1 b2;have mcl:=zdI y.1;have htk1:=tkc y.1;simp(disch:=omega) only[go_sem,↓reduceIte,reduceCtorEq,rvM,apn,aps,hcl,m408,mcl,htk1,l8,c8,dk8];refine hK _ _ ?_;clear hK K;refine PW.e ?_;refine PW.us ?_;refine PW.e ?_;refine PL.at [11,13,14,15,16,68,69] (ih r om (k+1) (D++[y.1]) y.2 a1 om (by simp[hD]) (fun x hx=> ?_) b1 ?_ hr2) rfl ?_
     ·rcases List.mem_append.1 hx with hx|hx
      ·exact hDl x hx
      ·rw[List.mem_singleton]at hx;rw[hx];exact b2
     ·rw[hr2,←hres];congr 1;funext z a';simp only[Rr.bind,qE,List.cons_append,qU]
     ·rfl
   ·have h6:k=w:=ofF h;subst h6;refine PW.exit ?_;rw[qI]at hd;subst hd;rw[qI,slL,Rr.bind_ok]at hres;have hcl:=zrj hDl k 0 hD;have lf:=zpO (H.length+4) q n a (sH H s p t q f n a c st (D.flatMap mbc++zrp 0)) (apn _ _ 4) ha om;unfold sH at lf;by_cases han:a=n
    ·rw[if_pos han]at hres;rw[han,qI]at lf;subst han;(repeat refine PW.seq ?_);refine PW.rg rfl fun K hK=> ?_;simp(disch:=omega) only[go_sem,↓reduceIte,reduceCtorEq,sH];refine VCx.call (lf) rfl ?_;simp(disch:=omega) only[go_sem,↓reduceIte,reduceCtorEq];refine hK _ _ ?_;clear hK K;refine PW.us ?_;refine PW.e ?_;refine PW.v (.tup [.int .i64 (v:Int),.msl (H.length+7) 0 0 k 408 true,.int .i64 0]) ?_;rw[←hres];have hz0:zrp 0=[]:=by simp[zrp]
     refine Fin.base (Fz.tupC ⟨.id (.int _ _),?_,.id (.int _ _),trivial⟩);rw[qV,hD,hz0,qV];exact Fz.mslC (e:=149) (xs:=D.flatMap mbc) om (apn _ _ 7) (by rw[zaW mbc 408 D (fun x hx=>zw x (hDl x hx)),hD]) (FzC.refl (zjr D _))
    ·rw[if_neg han]at hres;have d0:(((n - a:Nat):Int) !=0)=true:=by simp;omega
     (repeat refine PW.seq ?_);refine PW.rg rfl fun K hK=> ?_;simp(disch:=omega) only[go_sem,↓reduceIte,reduceCtorEq,sH];refine VCx.call (lf) rfl ?_;simp(disch:=omega) only[go_sem,↓reduceIte,reduceCtorEq,d0];refine hK _ _ ?_;clear hK K;refine PW.t ?_;refine PW.e ?_;refine PW.v (.tup [.int .i64 0,.slice [] 0 true,.int .i64 3]) ?_;rw[←hres];exact Fin.base (.id (zow _ _ _))
theorem Rr.bind_okE{α β:Type}{x:Rr α}{f:α→Nat→Rr β}{v:β}{a:Nat}(h:x.bind f= .ok v a):∃ y a1,x= .ok y a1∧f y a1= .ok v a:=by
 cases x with
 | ok y a1=>exact⟨y,a1,rfl,h⟩
 | er e a1=>cases h
theorem zuV(s:St)(d:Nat)(x y:Int):(zbg s d x y).q=s.q:=by unfold zbg;split<;>rfl
theorem zuW(s:St)(d:Nat)(x:Int):(zcW s d x).q=s.q:=by unfold zcW;split<;>(try split)<;>rfl
theorem zpv(m:Mb)(d k:Nat)(x y:Int):(zaJ m d k x y).dl=m.dl:=by
 unfold zaJ;repeat' split
 all_goals rfl
theorem zpz(m:Mb)(d k:Nat)(x:Int):(zej m d k x).dl=m.dl:=by
 unfold zej;repeat' split
 all_goals rfl
theorem zpB(m:Mb)(d:Nat)(b:Bool):(zbR m d b).dl=m.dl:=by
 unfold zbR;repeat' split
 all_goals rfl
theorem zr6{c:Cx}{q:List UInt8}{n:Nat}{m:Mb}{s:St}{d k a:Nat}{y:Mb×St}{a1:Nat}(h:zcT c q n m s d k a= .ok y a1):y.1.dl=m.dl∧y.2.q=s.q:=by
 unfold zcT at h;obtain⟨m',a2,h1,h⟩:=Rr.bind_okE h;obtain⟨x,a3,_,h⟩:=Rr.bind_okE h;obtain⟨z,a4,_,h⟩:=Rr.bind_okE h;injection h with h _;rw[←h];refine⟨(zpv _ _ _ _ _).trans ?_,zuV _ _ _ _⟩;split at h1
 ·obtain⟨b,a5,_,h1⟩:=Rr.bind_okE h1;injection h1 with h1 _;rw[←h1];exact zpz _ _ _ _
 ·injection h1 with h1 _;rw[h1]
theorem zmC{c:Cx}{q:List UInt8}{n d:Nat}:∀(r k:Nat) (m:Mb) (s:St) (a:Nat) {y:Mb×St} {a1:Nat},zbO c q n d r k m s a= .ok y a1→y.1.dl=m.dl∧y.2.q=s.q
 | 0,_,m,s,a,y,a1,h=>by injection h with h _;rw[←h];exact⟨rfl,rfl⟩
 | r+1,k,m,s,a,y,a1,h=>by unfold zbO at h;obtain⟨x,a2,h1,h⟩:=Rr.bind_okE h;obtain⟨e1,e2⟩:=zr6 h1;obtain⟨e3,e4⟩:=zmC r (k+1) x.1 x.2 a2 h;exact⟨e3.trans e1,e4.trans e2⟩
theorem zr9{c:Cx}{q:List UInt8}{n:Nat}{m:Mb}{s:St}{d a:Nat}{y:Mb×St}{a1:Nat}(h:zeN c q n m s d a= .ok y a1):y.1.dl=m.dl∧y.2.q=s.q:=by
 unfold zeN at h;split at h
 ·exact zmC _ _ _ _ _ h
 ·injection h with h _;rw[←h];exact⟨rfl,rfl⟩
theorem zmE{c:Cx}{q:List UInt8}{n:Nat}:∀(r d:Nat) (m:Mb) (s:St) (a:Nat) {y:Mb×St} {a1:Nat},zbu c q n r d m s a= .ok y a1→y.1.dl=m.dl∧y.2.q=s.q
 | 0,_,m,s,a,y,a1,h=>by injection h with h _;rw[←h];exact⟨rfl,rfl⟩
 | r+1,d,m,s,a,y,a1,h=>by unfold zbu at h;obtain⟨x,a2,h1,h⟩:=Rr.bind_okE h;obtain⟨e1,e2⟩:=zr9 h1;obtain⟨e3,e4⟩:=zmE r (d+1) x.1 x.2 a2 h;exact⟨e3.trans e1,e4.trans e2⟩
theorem zr7{c:Cx}{q:List UInt8}{n:Nat}{m:Mb}{s:St}{a:Nat}{y:Mb×St}{a1:Nat}(h:zbD c q n m s a= .ok y a1):y.1.dl=m.dl∧y.2.q=s.q:=by
 unfold zbD at h;split at h
 ·obtain⟨m',a2,h1,h⟩:=Rr.bind_okE h;obtain⟨e1,e2⟩:=zmE _ _ _ _ _ h;refine⟨e1.trans ?_,e2⟩;split at h1
  ·obtain⟨b,a5,_,h1⟩:=Rr.bind_okE h1;injection h1 with h1 _;rw[←h1]
  ·injection h1 with h1 _;rw[h1]
 ·injection h with h _;rw[←h];exact⟨rfl,rfl⟩
theorem zsa{c:Cx}{q:List UInt8}{n:Nat}{hl:Bool}{m:Mb}{s:St}{a:Nat}{y:Mb×St}{a1:Nat}(h:zbP c q n hl m s a= .ok y a1)(hm:m.dl=0)(hs:1≤s.q∧s.q≤31):y.2.q=s.q+y.1.dl∧1≤y.2.q∧y.2.q≤31:=by
 unfold zbP at h;split at h
 ·obtain⟨m',a2,h1,h⟩:=Rr.bind_okE h;obtain⟨d,a3,_,h⟩:=Rr.bind_okE h;split at h
  ·rename_i hv;injection h with e _;rw[←e];simp[vqB]at hv;exact⟨rfl,hv⟩
  ·cases h
 ·injection h with e _;rw[←e];refine⟨?_,hs⟩;show s.q=s.q+m.dl;omega
theorem zmF{q:List UInt8}{n:Nat}:∀(r:Nat) (m:Mb) (a:Nat) {y:Mb} {a1:Nat},zdv q n r m a= .ok y a1→y.dl=m.dl
 | 0,m,a,y,a1,h=>by
  unfold zdv at h;split at h
  ·injection h with h _;rw[h]
  ·cases h
 | r+1,m,a,y,a1,h=>by unfold zdv at h;obtain⟨b,a2,_,h⟩:=Rr.bind_okE h;exact(zmF r _ a2 h).trans (zpB _ _ _)
theorem zgp{q:List UInt8}{n:Nat}:∀(r:Nat) (m:Mb) (s:St) (a:Nat) {y:Mb×St} {a1:Nat},zaS q n r m s a= .ok y a1→y.1.dl=m.dl∧y.2.q=s.q
 | 0,m,s,a,y,a1,h=>by injection h with h _;rw[←h];exact⟨rfl,rfl⟩
 | r+1,m,s,a,y,a1,h=>by
  unfold zaS at h;split at h
  ·split at h
   ·obtain⟨l,a2,_,h⟩:=Rr.bind_okE h;split at h
    ·cases h
    ·obtain⟨e1,e2⟩:=zgp r _ s a2 h;exact⟨e1,e2⟩
   ·obtain⟨d,a2,_,h⟩:=Rr.bind_okE h;obtain⟨l,a3,_,h⟩:=Rr.bind_okE h;obtain⟨e1,e2⟩:=zgp r _ _ a3 h;exact⟨e1,e2.trans (zuW _ _ _)⟩
  ·exact zgp r m s a h
theorem zr8{c:Cx}{q:List UInt8}{n a:Nat}{y:Mb×Bool}{a1:Nat}(h:zbW c q n a= .ok y a1):y.1.dl=0:=by
 unfold zbW at h;split at h
 ·injection h with h _;rw[←h];rfl
 ·obtain⟨v,a2,_,h⟩:=Rr.bind_okE h;repeat' split at h
  all_goals first|(cases h;done)|(cases h;rfl)
theorem zvf{c:Cx}{q:List UInt8}{n a:Nat}{s:St}{y:Mb×St}{a1:Nat}(h:zdp c s q n a= .ok y a1):y.2.q=s.q+y.1.dl∧1≤y.2.q∧y.2.q≤31:=by
 unfold zdp at h;split at h
 ·rename_i hv;rw[qK]at hv;have hsq:=(zmy hv.2).1;unfold mtk at h;obtain⟨x,a2,h1,h⟩:=Rr.bind_okE h;have e0:=zr8 h1;unfold zkg at h;obtain⟨y2,a3,h2,h⟩:=Rr.bind_okE h;obtain⟨y3,a4,h3,h⟩:=Rr.bind_okE h;obtain⟨m4,a5,h4,h⟩:=Rr.bind_okE h;obtain⟨y5,a6,h5,h⟩:=Rr.bind_okE h;obtain⟨p1,p2⟩:=zr7 h2;obtain⟨c1,c2⟩:=zsa h3 (p1.trans e0) (by rw[p2];exact hsq);obtain⟨l1,l2⟩:=zgp _ _ _ _ h5;have c3:m4.dl=y3.1.dl:=by
   unfold zbE at h4;split at h4
   ·exact zmF _ _ _ h4
   ·injection h4 with h4 _;rw[h4]
  injection h with h _;rw[←h];have e1:(aft y5.2 y5.1.k).q=y3.2.q:=l2;dsimp only;rw[e1,l1,c3,c1,p2];rw[p2]at c1;omega
 ·cases h
def znL:Int→List Mb→List Int
 | _,[]=>[]
 | q,m::r=>(q+m.dl)::znL (q+m.dl) r
theorem zpX{s:Sq}{p:Pi}:0≤zS s p∧zS s p≤4:=by
 unfold zS;split
 ·rename_i hv;have:=zb8 hv;split
  ·have:=qD (a:=s.h) (b:=16) om;omega
  ·have:=qD (a:=s.h) (b:=32) om;omega
 ·omega
theorem zsE(p:Pi)(n:Nat):∀ x∈pic p,Scoped n x:=fun x hx=>by
 simp only[pic,qG,qJ,or_false]at hx;rcases hx with rfl|rfl|rfl|rfl|rfl|rfl
 ·exact .int _ _
 ·exact .int _ _
 ·exact .int _ _
 ·exact .bool _
 ·exact .bool _
 ·exact .bool _
def SameL(m m':Mb):Prop:=∃ l,m'={ m with lv:=l }
theorem SameL.refl(m:Mb):SameL m m:=⟨m.lv,rfl⟩
theorem SameL.trans{a b c:Mb}(h:SameL a b)(k:SameL b c):SameL a c:=by obtain⟨l,rfl⟩:=h;obtain⟨l',rfl⟩:=k;exact⟨l',rfl⟩
theorem SameL.set(m:Mb)(n:Nat)(l:List Int):SameL m (za3 m n l):=⟨_,rfl⟩
theorem SameL.cdl{m m':Mb}(h:SameL m m'):Sc.cdl m'=Sc.cdl m∧m'.k=m.k:=by obtain⟨l,rfl⟩:=h;exact⟨rfl,rfl⟩
def SameC(m m':Mb):Prop:=∃ c0 c1 c2 c3 c4 c5:Bool,m'={ m with ca:=c0,cb:=c1,cc:=c2,cd:=c3,ce:=c4,cf:=c5 }
theorem SameC.refl(m:Mb):SameC m m:=⟨m.ca,m.cb,m.cc,m.cd,m.ce,m.cf,rfl⟩
theorem SameC.set(m:Mb)(n:Nat)(b:Bool):SameC m (zbR m n b):=by
 unfold zbR;split
 ·exact⟨b,m.cb,m.cc,m.cd,m.ce,m.cf,rfl⟩
 split
 ·exact⟨m.ca,b,m.cc,m.cd,m.ce,m.cf,rfl⟩
 split
 ·exact⟨m.ca,m.cb,b,m.cd,m.ce,m.cf,rfl⟩
 split
 ·exact⟨m.ca,m.cb,m.cc,b,m.ce,m.cf,rfl⟩
 split
 ·exact⟨m.ca,m.cb,m.cc,m.cd,b,m.cf,rfl⟩
 ·exact⟨m.ca,m.cb,m.cc,m.cd,m.ce,b,rfl⟩
theorem SameC.trans{a b c:Mb}(h:SameC a b)(k:SameC b c):SameC a c:=by obtain⟨c0,c1,c2,c3,c4,c5,rfl⟩:=h;obtain⟨d0,d1,d2,d3,d4,d5,rfl⟩:=k;exact⟨d0,d1,d2,d3,d4,d5,rfl⟩
structure Fm where
 w:Int
 h:Int
 y:List UInt8
 u:List UInt8
 v:List UInt8
def fmc(f:Fm):List PV:=[.int .i64 f.w,.int .i64 f.h,.slice (bs f.y) f.y.length false,.slice (bs f.u) f.u.length false,.slice (bs f.v) f.v.length false]
def fsz(w h:Int):Bool:=decide (2≤w)&&(decide (w≤64)&&(decide (w%2=0)&&(decide (2≤h)&&(decide (h≤64)&&decide (h%2=0)))))
def fmd(f:Fm):Bool:=fsz f.w f.h&&(decide ((f.y.length:Int)=f.w * f.h)&&(decide ((f.u.length:Int)=f.w / 2 * (f.h / 2))&&decide ((f.v.length:Int)=f.w / 2 * (f.h / 2))))
def fvd(f:Fm):Bool:=fmd f&&(decide (f.w%16=0)&&decide (f.h%16=0))
theorem zvD{w h:Int}(e:fsz w h=true):2≤w∧w≤64∧w%2=0∧2≤h∧h≤64∧h%2=0:=by simpa[fsz]using e
def rgI(n:Nat)(f:Nat→Int):List Int:=(List.range n).map f
def u8(v:Int):UInt8:=UInt8.ofNat v.toNat
def bfr(n:Nat)(fd:Bool):Nat:=if 4≤n then 0 else n%2 * 8+n / 2 * (if fd then 16 else 128)
def bst(n:Nat)(fd:Bool):Nat:=if 4≤n then 8 else if fd then 32 else 16
def bps(n:Nat)(fd:Bool)(k:Nat):Nat:=bfr n fd+k / 8 * bst n fd+k%8
def bln(n:Nat):Nat:=if 4≤n then 64 else 256
def blk(p:List UInt8)(n:Nat)(fd:Bool):List Int:=rgI 64 fun k=>byt p (bps n fd k)
def nr(D:Int)(p q:List UInt8):Prop:=p.length=q.length∧∀ i,-D≤byt p i - byt q i∧byt p i - byt q i≤D
theorem nr.refl{D:Int}(h:0≤D)(p:List UInt8):nr D p p:=⟨rfl,fun i=>om⟩
end Go.Proofs.YtpjlfoficnpfoaaGreatDoor.Sc
