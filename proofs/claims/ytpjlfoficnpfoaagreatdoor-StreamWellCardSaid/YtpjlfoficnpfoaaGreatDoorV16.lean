/-
  Parts of the proof, put together in one text. No condition.
-/
import Derived.Test.YtpjlfoficnpfoaaGreatDoorV15
open Bool renaming eq_false_or_eq_true → qH
open List renaming getElem?_eq_some_iff → qA, getElem?_append_right → qB, length_append → qC, take → qE, length_cons → qF, length_nil → qG, drop → qI, getElem?_set_ne → qJ, length_modify → qK, getElem_mem → qL, set_set → qM, getElem?_set_self → qN, getElem?_cons_succ → qO, take_of_length_le → qP, set_append_right → qR
open Nat renaming add_sub_cancel_left → qD, sub_self → qQ
namespace Go.Proofs.YtpjlfoficnpfoaaGreatDoor.Sc
set_option linter.all false
open Pm Ty Go.RowKit
theorem zqo(a b:Pi)(H:za):CallOk Tryz.prog 37 [.agg (pic a),.agg (pic b)] H (.bool (zbT a b)) H:=by
 obtain⟨ty,st,od,tf,rp,al⟩:=a;obtain⟨ty',st',od',tf',rp',al'⟩:=b;refine CallOk.body (F0:=[(0,.agg (pic ⟨ty,st,od,tf,rp,al⟩)),(1,.agg (pic ⟨ty',st',od',tf',rp',al'⟩))]) Tryz.func37 rfl Tryz.ntmps37 Tryz.results37 rfl kr rfl ?_;(repeat'(first|refine PW.seq ?_|refine PW.skip ?_|refine PW.block ?_|((first|refine PW.rg rfl fun K hK=> ?_|refine PW.draw mix kr fun K hK=> ?_);simp(maxSteps:=3000000) (disch:=omega) only[go_sem,↓reduceIte,reduceCtorEq,pic])|((first|refine zh ?_ ?_|refine ze ?_ ?_|refine And.intro ?_ ?_)<;>intro h<;>(try simp only[nqb]at h)<;>simp(maxSteps:=3000000) (disch:=omega) only[go_sem,↓reduceIte,reduceCtorEq,pic,h])|(refine hK _ _ ?_;clear hK K)|(refine PW.cond (t:=_) rfl (fun h=> ?_) (fun h=> ?_)<;>(try(cases h;done))<;>(try simp only[nqb]at h))));all_goals((refine PW.ret ⟨_,rfl,?_⟩;first|refine .inl ⟨?_,rfl⟩|refine Fin.base (.id' ?_ (.bool _))|refine Fin.base (.id' ?_ (.int _ _)));simp_all[zbT,slot,Nat.beq])
 all_goals grind
def enR(e:En):List PV:=[.int .i64 e.f,.int .i64 e.l,.int .i64 e.ty,.int .i64 e.pa,.int .i64 e.fu,.int .i64 e.sh]
def wtl(j:Nat)(w:Wk):List PV:=[.int .i64 w.old,.int .i64 w.new,.bool w.wt,.int .i64 w.op,.int .i64 w.no,.int .i64 w.sh,.msl j (w.out.length * 6) 0 w.out.length 6 true,.bool w.sk]
def wkc(j:Nat)(L:List It)(fl:Bool)(w:Wk):List PV:=.slice (itL L) L.length fl:: .bool w.hd::(sqc w.sq++wtl j w)
def wkB(j:Nat)(L:List It)(fl:Bool)(w:Wk):Blk:=⟨77,0,wkc j L fl w⟩
def woB(o:List En):Blk:=⟨80,o.length * 6,o.flatMap enR⟩
section
variable {j:Nat} {L:List It} {fl:Bool}
theorem zmu(w:Wk)(h:SqL w.sq):(wkc j L fl w).length=145:=by simp only[wkc,wtl,qF,qC,zB _ h,qG]
theorem zds(w:Wk)(h:SqL w.sq)(n:Nat):(wkc j L fl w)[137+n]? =(wtl j w)[n]? :=by unfold wkc;rw[show 137+n=(135+n)+1+1 from om,qO,qO,qB (by rw[zB _ h];omega),zB _ h,qD]
theorem zcm(w:Wk)(h:SqL w.sq)(n:Nat)(v:PV):(wkc j L fl w).set (137+n) v= .slice (itL L) L.length fl:: .bool w.hd::(sqc w.sq++(wtl j w).set n v):=by unfold wkc;rw[show 137+n=(135+n)+1+1 from om,List.set_cons_succ,List.set_cons_succ,qR _ _ (by rw[zB _ h];omega),zB _ h,qD]
theorem zuk(w:Wk)(h:SqL w.sq):qE 135 (qI 2 (wkc j L fl w))=sqc w.sq:=List.take_left' (zB _ h)
structure WkG(j:Nat)(L:List It)(fl:Bool)(w:Wk):Prop where
 ln:(wkc j L fl w).length=145
 lL:(wkc j L fl w)[0]? =some (.slice (itL L) L.length fl)
 hd:(wkc j L fl w)[1]? =some (.bool w.hd)
 sq:qE 135 (qI 2 (wkc j L fl w))=sqc w.sq
 old:(wkc j L fl w)[137]? =some (.int .i64 w.old)
 new:(wkc j L fl w)[138]? =some (.int .i64 w.new)
 wt:(wkc j L fl w)[139]? =some (.bool w.wt)
 op:(wkc j L fl w)[140]? =some (.int .i64 w.op)
 no:(wkc j L fl w)[141]? =some (.int .i64 w.no)
 sh:(wkc j L fl w)[142]? =some (.int .i64 w.sh)
 out:(wkc j L fl w)[143]? =some (.msl j (w.out.length * 6) 0 w.out.length 6 true)
 sk:(wkc j L fl w)[144]? =some (.bool w.sk)
theorem wkg(w:Wk)(h:SqL w.sq):WkG j L fl w:=⟨zmu w h,rfl,rfl,zuk w h,zds w h 0,zds w h 1,zds w h 2,zds w h 3,zds w h 4,zds w h 5,zds w h 6,zds w h 7⟩
structure WkS(j:Nat)(L:List It)(fl:Bool)(w:Wk):Prop where
 hd:∀ v,(wkc j L fl w).set 1 (.bool v)=wkc j L fl { w with hd:=v }
 old:∀ v,(wkc j L fl w).set 137 (.int .i64 v)=wkc j L fl { w with old:=v }
 new:∀ v,(wkc j L fl w).set 138 (.int .i64 v)=wkc j L fl { w with new:=v }
 wt:∀ v,(wkc j L fl w).set 139 (.bool v)=wkc j L fl { w with wt:=v }
 op:∀ v,(wkc j L fl w).set 140 (.int .i64 v)=wkc j L fl { w with op:=v }
 no:∀ v,(wkc j L fl w).set 141 (.int .i64 v)=wkc j L fl { w with no:=v }
 sh:∀ v,(wkc j L fl w).set 142 (.int .i64 v)=wkc j L fl { w with sh:=v }
 sk:∀ v,(wkc j L fl w).set 144 (.bool v)=wkc j L fl { w with sk:=v }
theorem wks(w:Wk)(h:SqL w.sq):WkS j L fl w:=⟨fun _=>rfl,fun _=>zcm w h 0 _,fun _=>zcm w h 1 _,fun _=>zcm w h 2 _,fun _=>zcm w h 3 _,fun _=>zcm w h 4 _,fun _=>zcm w h 5 _,fun _=>zcm w h 7 _⟩
end
theorem zda(o:List En):(o.flatMap enR).length=o.length * 6:=zaW enR 6 o fun _ _=>rfl
theorem zni(o:List En)(n:Nat)(hn:n<o.length)(v:Int):(o.flatMap enR).set (n * 6+5) (.int .i64 v)=(o.modify n (zcB v)).flatMap enR:=zhK enR 6 5 (.int .i64 v) om (zcB v) o n hn (fun _ _=>rfl) fun _ _=>rfl
structure WkH(H:za)(i j:Nat)(L:List It)(fl:Bool)(w:Wk):Prop where
 gi:H[i]? =some (wkB j L fl w)
 gj:H[j]? =some (woB w.out)
 ne:i≠j
structure WkOk(w:Wk)(m:Nat):Prop where
 sq:SqOk w.sq
 n:w.out.length≤m
 sh:0≤w.sh∧w.sh+(if w.wt then 1 else 0)≤w.out.length
 no:0≤w.no∧w.no≤2
 new: -1≤w.new∧w.new<w.out.length
 wt:w.wt=true→0≤w.new
def wR(H:za)(i j:Nat)(L:List It)(fl:Bool)(w:Wk):za:=tw H i j (wkB j L fl w) (woB w.out)
theorem wR_i(H:za)(i j:Nat)(L:List It)(fl:Bool)(w:Wk)(hil:i<H.length)(hne:i≠j):(wR H i j L fl w)[i]? =some ⟨77,0,wkc j L fl w⟩:=zoY _ _ _ _ _ ⟨hil,hne⟩
theorem ziN(H:za)(i j:Nat)(L:List It)(fl:Bool)(w w':Wk)(hne:i≠j)(he:w'.out=w.out):(wR H i j L fl w).set i ⟨77,0,wkc j L fl w'⟩=wR H i j L fl w':=by unfold wR tw;rw[List.set_comm _ _ (by omega:j≠i),qM,he];rfl
theorem zoI(H:za)(i j:Nat)(L:List It)(fl:Bool)(w w':Wk)(hne:i≠j):wR (wR H i j L fl w) i j L fl w'=wR H i j L fl w':=zoV _ _ _ _ _ _ _ hne
theorem zdW{H:za}{i j:Nat}{L:List It}{fl:Bool}{w:Wk}(h:WkH H i j L fl w):wR H i j L fl w=H:=by unfold wR tw;rw[zcV h.gi,zcV h.gj]
theorem zum(H:za)(i j:Nat)(L:List It)(fl:Bool)(w:Wk)(hil:i<H.length)(hjl:j<H.length)(hne:i≠j):WkH (wR H i j L fl w) i j L fl w:=⟨zoY _ _ _ _ _ ⟨hil,hne⟩,zuz _ _ _ _ _ hjl,hne⟩
theorem zbN(H:za)(i j:Nat)(L:List It)(fl:Bool)(w:Wk):(wR H i j L fl w).length=H.length:=zoX _ _ _ _ _
structure WrT(H:za)(i j:Nat)(L:List It)(fl:Bool):Prop where
 gi:∀ w,(wR H i j L fl w)[i]? =some ⟨77,0,wkc j L fl w⟩
 gj:∀ w,(wR H i j L fl w)[j]? =some ⟨80,w.out.length * 6,w.out.flatMap enR⟩
 hd:∀ w v,(wR H i j L fl w).set i ⟨77,0,wkc j L fl { w with hd:=v }⟩=wR H i j L fl { w with hd:=v }
 old:∀ w v,(wR H i j L fl w).set i ⟨77,0,wkc j L fl { w with old:=v }⟩=wR H i j L fl { w with old:=v }
 new:∀ w v,(wR H i j L fl w).set i ⟨77,0,wkc j L fl { w with new:=v }⟩=wR H i j L fl { w with new:=v }
 wt:∀ w v,(wR H i j L fl w).set i ⟨77,0,wkc j L fl { w with wt:=v }⟩=wR H i j L fl { w with wt:=v }
 op:∀ w v,(wR H i j L fl w).set i ⟨77,0,wkc j L fl { w with op:=v }⟩=wR H i j L fl { w with op:=v }
 no:∀ w v,(wR H i j L fl w).set i ⟨77,0,wkc j L fl { w with no:=v }⟩=wR H i j L fl { w with no:=v }
 sh:∀ w v,(wR H i j L fl w).set i ⟨77,0,wkc j L fl { w with sh:=v }⟩=wR H i j L fl { w with sh:=v }
 sk:∀ w v,(wR H i j L fl w).set i ⟨77,0,wkc j L fl { w with sk:=v }⟩=wR H i j L fl { w with sk:=v }
theorem wrt(H:za)(i j:Nat)(L:List It)(fl:Bool)(hil:i<H.length)(hjl:j<H.length)(hne:i≠j):WrT H i j L fl:=
 ⟨fun w=>wR_i _ _ _ _ _ _ hil hne,fun w=>zuz _ _ _ _ _ hjl,fun w v=>ziN _ _ _ _ _ w _ hne rfl,fun w v=>ziN _ _ _ _ _ w _ hne rfl,fun w v=>ziN _ _ _ _ _ w _ hne rfl,fun w v=>ziN _ _ _ _ _ w _ hne rfl,
  fun w v=>ziN _ _ _ _ _ w _ hne rfl,fun w v=>ziN _ _ _ _ _ w _ hne rfl,fun w v=>ziN _ _ _ _ _ w _ hne rfl,fun w v=>ziN _ _ _ _ _ w _ hne rfl⟩
theorem zgJ(L:List It)(fl:Bool)(w:Wk)(i j:Nat)(H:za)(h:WkH H i j L fl w)(hw:SqL w.sq):CallOk Tryz.prog 58 [.ptr i 0 0] H (.tup []) (wR H i j L fl w.drop):=by
 have hil:i<H.length:=(qA.1 h.gi).1;have hjl:j<H.length:=(qA.1 h.gj).1;have t:=wrt H i j L fl hil hjl h.ne;have g:=wkg (j:=j) (L:=L) (fl:=fl) w hw;have g2:=wkg (j:=j) (L:=L) (fl:=fl) { w with sk:=true } hw;have s:=wks (j:=j) (L:=L) (fl:=fl) w hw;have s2:=wks (j:=j) (L:=L) (fl:=fl) { w with sk:=true } hw;refine CallOk.go Tryz.func58 Tryz.ntmps58 Tryz.results58 ?_;refine PW.eq rfl (zdW h).symm ?_;refine PW.f (fun K k=>by simp(maxSteps:=3000000) (disch:=omega) only[go_sem,↓reduceIte,reduceCtorEq,t.gi,g.ln,g.op];exact k) ?_;refine PW.c (fun h=> ?_) (fun h=> ?_)
 ·have h0:0≤w.op:=of_decide_eq_true h;have e:w.drop={ w with sk:=true,op:= -1 }:=by unfold Wk.drop;simp[h0]
  rw[e];refine PW.f (fun K k=>by simp(maxSteps:=3000000) (disch:=omega) only[go_sem,↓reduceIte,reduceCtorEq,t.gi,t.sk,g.ln,s.sk];exact k) ?_;refine PW.f (fun K k=>by simp(maxSteps:=3000000) (disch:=omega) only[go_sem,↓reduceIte,reduceCtorEq,t.gi,t.op,g2.ln,s2.op];exact k) ?_;exact⟨_,rfl,Fin.now⟩
 ·have h0:¬ 0≤w.op:=of_decide_eq_false h;have e:w.drop={ w with op:= -1 }:=by unfold Wk.drop;simp[h0]
  rw[e];refine PW.skip ?_;refine PW.f (fun K k=>by simp(maxSteps:=3000000) (disch:=omega) only[go_sem,↓reduceIte,reduceCtorEq,t.gi,t.op,g.ln,s.op];exact k) ?_;exact⟨_,rfl,Fin.now⟩
theorem zia(L:List It)(fl:Bool)(w:Wk)(i j:Nat)(H:za)(h:WkH H i j L fl w)(hw:WkOk w 1000000):CallOk Tryz.prog 59 [.ptr i 0 0] H (.tup []) (wR H i j L fl w.reset):=by
 have hil:i<H.length:=(qA.1 h.gi).1;have hjl:j<H.length:=(qA.1 h.gj).1;have t:=wrt H i j L fl hil hjl h.ne;have hsq:=hw.sq.toL;have g:=wkg (j:=j) (L:=L) (fl:=fl) w hsq;have hsh:=hw.sh;have hnn:=hw.n;have hnw:=hw.new;have hwt:=hw.wt;have hself:=zdW h;have hne:=h.ne;unfold Wk.reset;refine CallOk.go Tryz.func59 Tryz.ntmps59 Tryz.results59 ?_;refine PW.eq rfl hself.symm ?_;refine PW.f (fun K k=>by simp(maxSteps:=3000000) (disch:=omega) only[go_sem,↓reduceIte,reduceCtorEq,t.gi,g.ln,g.wt];exact k) ?_;unfold Wk.disp;refine PW.c (fun h=> ?_) (fun h=> ?_)
 ·obtain⟨n,hn⟩:∃ n:Nat,w.new=(n:Int):=⟨w.new.toNat,by have:=hwt h;omega⟩;rw[if_pos h]at hsh ⊢;have hln:=zda w.out;have hset:=zni w.out n om w.sh;have gn:=g.new;rw[hn]at gn;(repeat refine PW.seq ?_);refine PW.drawi [j] [(9,[0]),(18,[0]),(19,[0])] [] [] mix kr (by simp<;>omega) fun K hK=> ?_;simp(maxSteps:=3000000) (disch:=omega) only[go_sem,↓reduceIte,reduceCtorEq,t.gi,t.gj,g.ln,g.out,gn,g.sh,hln,hset];refine hK _ _ ?_;clear hK K;have hb:(wR H i j L fl w).set j ⟨80,w.out.length * 6,(w.out.modify n (zcB w.sh)).flatMap enR⟩=wR H i j L fl { w with out:=w.out.modify n (zcB w.sh) }:=by unfold wR tw;rw[qM];unfold wkB woB wkc wtl;simp only[qK]
  refine PW.at [0] (?_:PW _ _ _ [(0,.ptr i 0 0)] (wR H i j L fl { w with out:=w.out.modify n (zcB w.sh) }) _) rfl hb;rw[show w.new.toNat=n from om];generalize w.out.modify n (zcB w.sh)=o at *;have g:=wkg (j:=j) (L:=L) (fl:=fl) { w with out:=o } hsq;have s:=wks (j:=j) (L:=L) (fl:=fl) { w with out:=o } hsq;have g1:=wkg (j:=j) (L:=L) (fl:=fl) { w with out:=o,sh:=w.sh+1 } hsq;have s1:=wks (j:=j) (L:=L) (fl:=fl) { w with out:=o,sh:=w.sh+1 } hsq;have g2:=wkg (j:=j) (L:=L) (fl:=fl) { w with out:=o,sh:=w.sh+1,old:= -1 } hsq;have s2:=wks (j:=j) (L:=L) (fl:=fl) { w with out:=o,sh:=w.sh+1,old:= -1 } hsq;have g3:=wkg (j:=j) (L:=L) (fl:=fl) { w with out:=o,sh:=w.sh+1,old:= -1,new:= -1 } hsq;have s3:=wks (j:=j) (L:=L) (fl:=fl) { w with out:=o,sh:=w.sh+1,old:= -1,new:= -1 } hsq;have g4:=wkg (j:=j) (L:=L) (fl:=fl) { w with out:=o,sh:=w.sh+1,old:= -1,new:= -1,wt:=false } hsq;have s4:=wks (j:=j) (L:=L) (fl:=fl) { w with out:=o,sh:=w.sh+1,old:= -1,new:= -1,wt:=false } hsq;refine PW.f (fun K k=>by simp(maxSteps:=3000000) (disch:=omega) only[go_sem,↓reduceIte,reduceCtorEq,t.gi,t.sh,g.ln,g.sh,s.sh];exact k) ?_;refine PW.f (fun K k=>by simp(maxSteps:=3000000) (disch:=omega) only[go_sem,↓reduceIte,reduceCtorEq,t.gi,t.old,t.new,t.wt,t.no,g1.ln,s1.old,g2.ln,s2.new,g3.ln,s3.wt,g4.ln,s4.no];exact k) ?_;exact⟨_,rfl,Fin.now⟩
 ·rw[if_neg (by rw[h];simp)];have s1:=wks (j:=j) (L:=L) (fl:=fl) w hsq;have g2:=wkg (j:=j) (L:=L) (fl:=fl) { w with old:= -1 } hsq;have s2:=wks (j:=j) (L:=L) (fl:=fl) { w with old:= -1 } hsq;have g3:=wkg (j:=j) (L:=L) (fl:=fl) { w with old:= -1,new:= -1 } hsq;have s3:=wks (j:=j) (L:=L) (fl:=fl) { w with old:= -1,new:= -1 } hsq;have g4:=wkg (j:=j) (L:=L) (fl:=fl) { w with old:= -1,new:= -1,wt:=false } hsq;have s4:=wks (j:=j) (L:=L) (fl:=fl) { w with old:= -1,new:= -1,wt:=false } hsq;refine PW.skip ?_;refine PW.f (fun K k=>by simp(maxSteps:=3000000) (disch:=omega) only[go_sem,↓reduceIte,reduceCtorEq,t.gi,t.old,t.new,t.wt,t.no,g.ln,s1.old,g2.ln,s2.new,g3.ln,s3.wt,g4.ln,s4.no];exact k) ?_;exact⟨_,rfl,Fin.now⟩
theorem zul(n j:Nat)(L:List It)(fl:Bool)(w:Wk)(h:j<n):∀ x∈wkc j L fl w,Scoped n x:=fun x hx=>by
 simp only[wkc,wtl,List.mem_cons,List.mem_append,List.not_mem_nil,or_false]at hx;rcases hx with rfl|rfl|hx|rfl|rfl|rfl|rfl|rfl|rfl|rfl|rfl
 ·exact zl (zcw _ _)
 ·exact .bool _
 ·exact zV _ _ x hx
 ·exact .int _ _
 ·exact .int _ _
 ·exact .bool _
 ·exact .int _ _
 ·exact .int _ _
 ·exact .int _ _
 ·exact .msl h
 ·exact .bool _
theorem zlt(n:Nat)(o:List En):∀ x∈(woB o).cells,Scoped n x:=fun x hx=>by obtain⟨e,_,hx⟩:=List.mem_flatMap.1 hx;simp only[enR,List.mem_cons,List.not_mem_nil,or_false]at hx;rcases hx with rfl|rfl|rfl|rfl|rfl|rfl<;>exact .int _ _
theorem zcq(H K:za)(i j:Nat)(L:List It)(fl:Bool)(w:Wk)(hi:i<H.length)(hj:j<H.length):wR (H++K) i j L fl w=wR H i j L fl w++K:=zgO _ _ _ _ _ _ hi hj
theorem zlu(H K:za)(i j:Nat)(L:List It)(fl:Bool)(w:Wk)(hi:i<H.length)(hj:j<H.length):Fin H (.tup []) (wR H i j L fl w) (.tup []) (wR (H++K) i j L fl w):=by rw[zcq _ _ _ _ _ _ _ hi hj];exact Fin.cut rfl (by rw[zbN]) (zoW (zul _ _ _ _ _ hj) (zlt _ _)) (.id (.tup sp))
theorem zrU(H:za)(i j:Nat)(L:List It)(fl:Bool)(w:Wk)(P E:Blk)(hi:i<H.length)(hj:j<H.length):
  (wR (H++[P,E]) i j L fl w)[H.length]? =some P∧(wR (H++[P,E]) i j L fl w)[H.length+1]? =some E∧∀ B,(wR (H++[P,E]) i j L fl w).set (H.length+1) B=wR (H++[P,B]) i j L fl w:=by
 have hl:=zbN H i j L fl w;refine⟨?_,?_,fun B=> ?_⟩
 ·rw[zcq _ _ _ _ _ _ _ hi hj,qB om,hl,qQ];rfl
 ·rw[zcq _ _ _ _ _ _ _ hi hj,qB om,hl,qD];rfl
 ·rw[zcq _ _ _ _ _ _ _ hi hj,zcq _ _ _ _ _ _ _ hi hj,qR _ _ om,hl,qD];rfl
theorem zwH(o:List En)(e:En):(o++[e]).flatMap enR=o.flatMap enR++enR e:=by rw[List.flatMap_append,List.flatMap_cons,List.flatMap_nil,List.append_nil]
theorem zmx(H:za)(i j:Nat)(L:List It)(fl:Bool)(w:Wk)(e:En)(hne:i≠j)(hsq:SqL w.sq):
  ((wR H i j L fl w).set j ⟨80,(w.out.flatMap enR++enR e).length,w.out.flatMap enR++enR e⟩).set i ⟨77,0,(wkc j L fl w).set 143 (.msl j (w.out.flatMap enR++enR e).length 0 (w.out.length+1) 6 true)⟩=wR H i j L fl { w with out:=w.out++[e] }:=by
 have e1:(w.out.flatMap enR++enR e).length=(w.out.length+1) * 6:=by rw[qC,zda];show _+6=_;omega
 have e2:(wkc j L fl w).set 143 (.msl j ((w.out.length+1) * 6) 0 (w.out.length+1) 6 true)=wkc j L fl { w with out:=w.out++[e] }:=by rw[zcm w hsq 6];unfold wkc wtl;simp only[qC,qF,qG];rfl
 rw[e1,e2];unfold wR tw;rw[qM,List.set_comm _ _ (by omega:j≠i),qM];unfold wkB woB;simp only[zwH,qC,qF,qG]
set_option maxHeartbeats 4000000 in
set_option maxRecDepth 100000 in
theorem znE(L:List It)(fl:Bool)(hL:∀ x∈L,SqOk x.s)(w:Wk)(k:Nat)(hk:k<L.length)(last:Int)(i j:Nat)(H:za)(h:WkH H i j L fl w)(hw:WkOk w 900000):
  CallOk Tryz.prog 190 [.ptr i 0 0,.int .i64 (k:Int),.int .i64 last] H (.tup []) (wR H i j L fl (w.frame (k:Int) last L[k].p.ty)):=by
 have hil:i<H.length:=(qA.1 h.gi).1;have hjl:j<H.length:=(qA.1 h.gj).1;have hne:=h.ne;have t0:=wrt H i j L fl hil hjl h.ne;have hsq:=hw.sq.toL;have g:=wkg (j:=j) (L:=L) (fl:=fl) w hsq;have s:=wks (j:=j) (L:=L) (fl:=fl) w hsq;have hsh:=hw.sh;have hnn:=hw.n;have hnw:=hw.new;have hwt:=hw.wt;have hno:=hw.no;have ln:=zak L hL;have ip:=zd6 L hL k hk;have hself:=zdW h;generalize hr:w.frame (k:Int) last L[k].p.ty=r;unfold Wk.frame at hr;generalize L[k].p=p at *;have p1:(pic p).length=6:=rfl;have p2:(pic p).all PV.cell=true:=rfl;have p3:qE 6 (pic p)=pic p:=rfl;have p4:(pic p)[0]? =some (.int .i64 p.ty):=rfl;refine CallOk.go Tryz.func190 Tryz.ntmps190 Tryz.results190 ?_;refine PW.eq rfl hself.symm ?_;refine PW.f (fun K k=>by simp(maxSteps:=3000000) (disch:=omega) only[go_sem,↓reduceIte,reduceCtorEq,t0.gi,g.ln,g.lL,ln,ip,p2];exact k) ?_;have hYl:=zbN H i j L fl w;have ta:∀ K,(wR H i j L fl w++K)[i]? =some ⟨77,0,wkc j L fl w⟩:=fun K=>by rw[List.getElem?_append_left om];exact t0.gi w
 (repeat refine PW.seq ?_);refine PW.drawg mix kr fun K hK=> ?_;simp(maxSteps:=3000000) (disch:=omega) only[go_sem,↓reduceIte,reduceCtorEq,ta,g.ln,g.new,p1,p4];refine hK _ _ ?_;clear hK K;have t:=fun P E=>wrt (H++[P,E]) i j L fl (by simp;omega) (by simp;omega) hne;have hl:=fun w P E=>zrU H i j L fl w P E hil hjl;obtain⟨e0,he0⟩:∃ e:En,e=⟨(k:Int),last,p.ty,w.new,-1,0⟩:=⟨_,rfl⟩;have hfin:=fun P E w=>zlu H [P,E] i j L fl w hil hjl;refine PW.at [0,6,7] (?_:PW _ _ _ [(0,.ptr i 0 0),(6,.ptr H.length 0 0),(7,.ptr (H.length+1) 0 0)] (wR (H++[⟨35,0,pic p⟩,⟨80,0,enR e0⟩]) i j L fl w) _) (by rw[←hYl];rfl) (by rw[zcq _ _ _ _ _ _ _ hil hjl,he0];rfl);have a0:=fun w E=>(hl w ⟨35,0,pic p⟩ E).1;have a1:=fun w E=>(hl w ⟨35,0,pic p⟩ E).2.1;have a2:=fun w E=>(hl w ⟨35,0,pic p⟩ E).2.2;have t:=fun E=>t ⟨35,0,pic p⟩ E;have hfin:=fun E w=>hfin ⟨35,0,pic p⟩ E w;have tgi:=fun E w=>(t E).gi w;have tgj:=fun E w=>(t E).gj w;have tsk:=fun E w v=>(t E).sk w v;have tsh:=fun E w v=>(t E).sh w v;have tol:=fun E w v=>(t E).old w v;have tne:=fun E w v=>(t E).new w v;have twt:=fun E w v=>(t E).wt w v;have tno:=fun E w v=>(t E).no w v;have hln:=zda w.out;refine PW.g (nq2 a0 (nq2 p1 p4)) ?_;refine PW.b ?_;refine PW.e ?_;by_cases h3:p.ty=3
 ·rw[if_pos h3]at hr;refine PW.c (fun h=> ?_) (fun h=> ?_);rotate_left
  ·simp[h3]at h
  suffices hrest:∀ b,(b=true↔(w.no>0∨w.old<0∨w.new<0))→PW Tryz.prog _ _ [(0,.ptr i 0 0),(6,.ptr H.length 0 0),(7,.ptr (H.length+1) 0 0),(48,.bool b)] (wR (H++[⟨35,0,pic p⟩,⟨80,0,enR e0⟩]) i j L fl w) _ by
   (repeat refine PW.seq ?_);refine PW.rg rfl fun K hK=> ?_;simp(maxSteps:=3000000) (disch:=omega) only[go_sem,↓reduceIte,reduceCtorEq,tgi,g.ln,g.no,g.old,g.new];(repeat'((first|refine zh ?_ ?_|refine ze ?_ ?_|refine zZ ?_ ?_|refine VOh_cond ?_ ?_|refine zY ?_ ?_|refine And.intro ?_ ?_)<;>intro h<;>(try simp only[nqb]at h)<;>simp(maxSteps:=3000000) (disch:=omega) only[go_sem,↓reduceIte,reduceCtorEq,tgi,g.ln,g.no,g.old,g.new,h]));all_goals(refine hK _ _ ?_;clear hK K)
   all_goals(refine PW.at [0,6,7,48] (hrest _ ?_) rfl rfl)
   all_goals(simp_all;try omega)
  intro b hb;refine PW.c (fun h=> ?_) (fun h=> ?_)
  ·subst h;rw[if_pos (hb.1 rfl)]at hr;subst hr;refine PW.f (fun K k=>by simp(maxSteps:=3000000) (disch:=omega) only[go_sem,↓reduceIte,reduceCtorEq,tgi,g.ln,s.sk,tsk];exact k) ?_;exact PW.ret ⟨_,rfl,hfin _ _⟩
  ·subst h;rw[if_neg (fun h=>by have:=hb.2 h;cases this)]at hr;refine PW.skip ?_;(repeat refine PW.seq ?_);refine PW.drawi [H.length+1] [(7,[0]),(64,[0]),(66,[0]),(68,[0]),(65,[0]),(67,[0])] [] [] mix kr (by simp<;>omega) fun K hK=> ?_;simp(maxSteps:=3000000) (disch:=omega) only[go_sem,↓reduceIte,reduceCtorEq,tgi,g.ln,g.old,g.new,g.sh,a1,a2,enR];refine hK _ _ ?_;clear hK K;obtain⟨e1,he1⟩:∃ e:En,e=⟨(k:Int),last,p.ty,w.old,w.new,w.sh⟩:=⟨_,rfl⟩;refine PW.at [0,6,7] (?_:PW _ _ _ [(0,.ptr i 0 0),(6,.ptr H.length 0 0),(7,.ptr (H.length+1) 0 0)] (wR (H++[⟨35,0,pic p⟩,⟨80,0,enR e1⟩]) i j L fl w) _) rfl (by rw[he1,he0];rfl);refine PW.f (fun K k=>by simp(maxSteps:=3000000) (disch:=omega) only[go_sem,↓reduceIte,reduceCtorEq,tgi,g.ln,g.sh,s.sh,tsh];exact k) ?_;have g1:=wkg (j:=j) (L:=L) (fl:=fl) { w with sh:=w.sh+1 } hsq;have l6:(enR e1).length=6:=rfl;have t6:qE 6 (enR e1)=enR e1:=rfl;have c6:(enR e1).all PV.cell=true:=rfl;have tji:∀ E w B,((wR (H++[⟨35,0,pic p⟩,E]) i j L fl w).set j B)[i]? =some ⟨77,0,wkc j L fl w⟩:=fun E w B=>by rw[qJ om];exact tgi E w
   have tjj:∀ E w B,((wR (H++[⟨35,0,pic p⟩,E]) i j L fl w).set j B)[j]? =some B:=fun E w B=>by rw[qN (by rw[zbN];simp;omega)]
   (repeat refine PW.seq ?_);refine PW.drawi [j,i] [(78,[0]),(81,[0]),(0,[1]),(74,[1]),(75,[1]),(76,[1]),(77,[1]),(82,[1]),(83,[1])] [] [] mix kr (by simp<;>omega) fun K hK=> ?_;simp(maxSteps:=3000000) (disch:=omega) only[go_sem,↓reduceIte,reduceCtorEq,tgi,tgj,tji,tjj,a1,g1.ln,g1.out,hln,l6,t6,c6];refine hK _ _ ?_;clear hK K;have hq:=zmx (H++[⟨35,0,pic p⟩,⟨80,0,enR e1⟩]) i j L fl { w with sh:=w.sh+1 } e1 hne hsq;dsimp only at hq;refine PW.eq rfl hq ?_;refine PW.ret ⟨_,rfl,?_⟩;rw[←he1]at hr;subst hr;exact hfin _ _
 rw[if_neg h3]at hr;refine PW.c (fun h=> ?_) (fun h=> ?_)
 ·simp[h3]at h
 refine PW.e ?_;suffices hrest:¬(p.ty=2∧w.new<0)→PW Tryz.prog _ _ [(0,.ptr i 0 0),(6,.ptr H.length 0 0),(7,.ptr (H.length+1) 0 0)] (wR (H++[⟨35,0,pic p⟩,⟨80,0,enR e0⟩]) i j L fl w) _ by
  by_cases h2:p.ty=2
  ·refine PW.c (fun h=> ?_) (fun h=> ?_);rotate_left
   ·simp[h2]at h
   refine PW.f (fun K k=>by simp(maxSteps:=3000000) (disch:=omega) only[go_sem,↓reduceIte,reduceCtorEq,tgi,g.ln,g.new];exact k) ?_;refine PW.c (fun h=> ?_) (fun h=> ?_)
   ·have hc:p.ty=2∧w.new<0:=⟨h2,of_decide_eq_true h⟩;rw[if_pos hc]at hr;subst hr;refine PW.f (fun K k=>by simp(maxSteps:=3000000) (disch:=omega) only[go_sem,↓reduceIte,reduceCtorEq,tgi,g.ln,s.sk,tsk];exact k) ?_;exact PW.ret ⟨_,rfl,hfin _ _⟩
   ·have hc:¬ w.new<0:=of_decide_eq_false h;refine PW.skip ?_;exact PW.at [0,6,7] (hrest om) rfl rfl
  ·refine PW.c (fun h=> ?_) (fun h=> ?_)
   ·simp[h2]at h
   refine PW.skip ?_;exact PW.at [0,6,7] (hrest om) rfl rfl
 intro hc;rw[if_neg hc]at hr;have l6:(enR e0).length=6:=rfl;have t6:qE 6 (enR e0)=enR e0:=rfl;have c6:(enR e0).all PV.cell=true:=rfl;have tji:∀ E w B,((wR (H++[⟨35,0,pic p⟩,E]) i j L fl w).set j B)[i]? =some ⟨77,0,wkc j L fl w⟩:=fun E w B=>by rw[qJ om];exact tgi E w
 have tjj:∀ E w B,((wR (H++[⟨35,0,pic p⟩,E]) i j L fl w).set j B)[j]? =some B:=fun E w B=>by rw[qN (by rw[zbN];simp;omega)]
 (repeat refine PW.seq ?_);refine PW.drawi [j,i] [(98,[0]),(101,[0]),(0,[1]),(94,[1]),(95,[1]),(96,[1]),(97,[1]),(102,[1]),(103,[1])] [] [] mix kr (by simp<;>omega) fun K hK=> ?_;simp(maxSteps:=3000000) (disch:=omega) only[go_sem,↓reduceIte,reduceCtorEq,tgi,tgj,tji,tjj,a1,g.ln,g.out,hln,l6,t6,c6];refine hK _ _ ?_;clear hK K;have hq:=zmx (H++[⟨35,0,pic p⟩,⟨80,0,enR e0⟩]) i j L fl w e0 hne hsq;rw[←he0]at hr;refine PW.at [0] (?_:PW _ _ _ [(0,.ptr i 0 0)] (wR (H++[⟨35,0,pic p⟩,⟨80,0,enR e0⟩]) i j L fl { w with out:=w.out++[e0] }) _) rfl hq;generalize (⟨80,0,enR e0⟩:Blk)=EB at *;have hol:(w.out++[e0]).length=w.out.length+1:=by simp
 clear hq;generalize w.out++[e0]=o at *;have g2:=wkg (j:=j) (L:=L) (fl:=fl) { w with out:=o } hsq;refine PW.f (fun K k=>by simp(maxSteps:=3000000) (disch:=omega) only[go_sem,↓reduceIte,reduceCtorEq,tgi,g2.ln,g2.wt];exact k) ?_;suffices hrest:∀ d:Wk,d=Wk.disp { w with out:=o }→PW Tryz.prog _ _ [(0,.ptr i 0 0)] (wR (H++[⟨35,0,pic p⟩,EB]) i j L fl d) _ by
  by_cases hwt1:w.wt=true
  ·obtain⟨n,hn⟩:∃ n:Nat,w.new=(n:Int):=⟨w.new.toNat,by have:=hwt hwt1;omega⟩;have hrest:=hrest _ rfl;unfold Wk.disp at hrest;dsimp only at hrest;rw[if_pos hwt1,show w.new.toNat=n from om]at hrest;rw[if_pos hwt1]at hsh;refine PW.c (fun h=> ?_) (fun h=> ?_);rotate_left
   ·rw[hwt1]at h;cases h
   have hln2:=zda o;have hset:=zni o n om w.sh;have gn:(wkc j L fl { w with out:=o })[138]? =some (.int .i64 (n:Int)):=g2.new.trans (by rw[hn]);(repeat refine PW.seq ?_);refine PW.drawi [j] [(111,[0]),(120,[0]),(121,[0])] [] [] mix kr (by simp<;>omega) fun K hK=> ?_;simp(maxSteps:=3000000) (disch:=omega) only[go_sem,↓reduceIte,reduceCtorEq,tgi,tgj,g2.ln,g2.out,gn,g2.sh,hln2,hset];refine hK _ _ ?_;clear hK K;have hb:(wR (H++[⟨35,0,pic p⟩,EB]) i j L fl { w with out:=o }).set j ⟨80,o.length * 6,(o.modify n (zcB w.sh)).flatMap enR⟩=wR (H++[⟨35,0,pic p⟩,EB]) i j L fl { w with out:=o.modify n (zcB w.sh) }:=by unfold wR tw;rw[qM];unfold wkB woB wkc wtl;simp only[qK]
   refine PW.at [0] (?_:PW _ _ _ [(0,.ptr i 0 0)] (wR (H++[⟨35,0,pic p⟩,EB]) i j L fl { w with out:=o.modify n (zcB w.sh) }) _) rfl hb;have g3:=wkg (j:=j) (L:=L) (fl:=fl) { w with out:=o.modify n (zcB w.sh) } hsq;have s3:=wks (j:=j) (L:=L) (fl:=fl) { w with out:=o.modify n (zcB w.sh) } hsq;refine PW.f (fun K k=>by simp(maxSteps:=3000000) (disch:=omega) only[go_sem,↓reduceIte,reduceCtorEq,tgi,g3.ln,g3.sh,s3.sh,tsh];exact k) ?_;exact PW.at [0] hrest rfl rfl
  ·have hrest:=hrest _ rfl;unfold Wk.disp at hrest;dsimp only at hrest;rw[if_neg hwt1]at hrest;refine PW.c (fun h=> ?_) (fun h=> ?_)
   ·exact absurd h hwt1
   refine PW.skip ?_;exact PW.at [0] hrest rfl rfl
 intro d hd;rw[←hd]at hr;have hdsq:SqL d.sq:=by rw[hd,(zdb _).2.2.2.2.2.1];exact hsq
 have hdl:d.out.length=w.out.length+1:=by
  rw[hd];unfold Wk.disp;split
  ·simp only[qK];exact hol
  ·exact hol
 have hdn:d.no=w.no:=by rw[hd,(zdb _).2.2.2.1]
 have hdl2:((d.out.length:Nat):Int) - 1=(w.out.length:Int):=om;clear hd;have k1:=wkg (j:=j) (L:=L) (fl:=fl) d hdsq;have m1:=wks (j:=j) (L:=L) (fl:=fl) d hdsq;have k2:=wkg (j:=j) (L:=L) (fl:=fl) { d with old:=d.new } hdsq;have m2:=wks (j:=j) (L:=L) (fl:=fl) { d with old:=d.new } hdsq;have k3:=wkg (j:=j) (L:=L) (fl:=fl) { d with old:=d.new,new:=(w.out.length:Int) } hdsq;have m3:=wks (j:=j) (L:=L) (fl:=fl) { d with old:=d.new,new:=(w.out.length:Int) } hdsq;have k4:=wkg (j:=j) (L:=L) (fl:=fl) { d with old:=d.new,new:=(w.out.length:Int),wt:=true } hdsq;have m4:=wks (j:=j) (L:=L) (fl:=fl) { d with old:=d.new,new:=(w.out.length:Int),wt:=true } hdsq;(repeat refine PW.seq ?_);refine PW.drawi [i] [(0,[0]),(129,[0]),(130,[0]),(131,[0]),(132,[0]),(133,[0]),(134,[0]),(136,[0]),(137,[0]),(138,[0]),(142,[0]),(143,[0]),(144,[0]),(145,[0]),(146,[0]),(147,[0])] [] [] mix kr (by simp<;>omega) fun K hK=> ?_;simp(maxSteps:=3000000) (disch:=omega) only[go_sem,↓reduceIte,reduceCtorEq,tgi,tgj,tol,tne,twt,k1.ln,k1.new,k1.out,m1.old,k2.ln,m2.new,k3.ln,m3.wt,hdl2,zrC];refine hK _ _ ?_;clear hK K;refine PW.f (fun K k=>by simp(maxSteps:=3000000) (disch:=omega) only[go_sem,↓reduceIte,reduceCtorEq,tgi,tno,k4.ln,k4.no,m4.no];exact k) ?_;have hm:(if d.no - 1>0 then d.no - 1 else 0)=max 0 (d.no - 1):=by split<;>omega
 subst hr;refine⟨_,rfl,?_⟩;rw[hm];exact hfin _ _
end Go.Proofs.YtpjlfoficnpfoaaGreatDoor.Sc
namespace Go.Proofs.YtpjlfoficnpfoaaGreatDoor.Sc
set_option linter.all false
open Pm Ty Go.RowKit
theorem WkOk.mono{w:Wk}{m n:Nat}(h:WkOk w m)(hm:m≤n):WkOk w n:=⟨h.sq,by have:=h.n;omega,h.sh,h.no,h.new,h.wt⟩
theorem zcQ{w:Wk}{m:Nat}(h:WkOk w m):WkOk w.drop m:=⟨h.sq,h.n,h.sh,h.no,h.new,h.wt⟩
theorem zmw{w:Wk}{m:Nat}(h:WkOk w m):w.disp.out.length=w.out.length∧0≤w.disp.sh∧w.disp.sh≤w.out.length:=by
 have hs:=h.sh;unfold Wk.disp;by_cases hw:w.wt=true
 ·rw[if_pos hw]at hs ⊢;refine⟨qK _ _ _,?_,?_⟩
  ·show 0≤w.sh+1;omega
  ·show w.sh+1≤_;omega
 ·rw[if_neg hw]at hs ⊢;exact⟨rfl,hs.1,om⟩
theorem zcy{w:Wk}{m:Nat}(h:WkOk w m):WkOk w.reset m:=by
 obtain⟨h1,h2,h3⟩:=zmw h;have hn:=h.n;have hsq:SqOk w.disp.sq:=by rw[(zdb w).2.2.2.2.2.1];exact h.sq
 refine⟨hsq,?_,?_,?_,?_,fun h=>by cases h⟩
 ·show w.disp.out.length≤m;omega
 ·show 0≤w.disp.sh∧w.disp.sh+(if false=true then(1:Int)else 0)≤w.disp.out.length;rw[if_neg sp];omega
 ·show 0≤(0:Int)∧(0:Int)≤2;omega
 ·show -1≤(-1:Int)∧(-1:Int)<w.disp.out.length;omega
theorem zj0{w:Wk}{m:Nat}(h:WkOk w m)(f l ty:Int):WkOk (w.frame f l ty) (m+1):=by
 obtain⟨a1,a2,a3,a4,a5,a6⟩:=h;unfold Wk.frame;split
 ·split
  ·exact⟨a1,by show w.out.length≤m+1;omega,a3,a4,a5,a6⟩
  ·refine⟨a1,by simp;omega,?_,a4,by simp;omega,a6⟩;show 0≤w.sh+1∧w.sh+1+(if w.wt=true then(1:Int)else 0)≤_;simp only[qC,qF,qG];split at a3
   ·rename_i hw;rw[if_pos hw];omega
   ·rename_i hw;rw[if_neg hw];omega
 ·split
  ·exact⟨a1,by show w.out.length≤m+1;omega,a3,a4,a5,a6⟩
  ·have hk:WkOk { w with out:=w.out++[⟨f,l,ty,w.new,-1,0⟩] } (m+1):=by refine⟨a1,by simp;omega,?_,a4,by simp;omega,a6⟩;show 0≤w.sh∧w.sh+(if w.wt=true then(1:Int)else 0)≤_;simp only[qC,qF,qG];omega
   obtain⟨h1,h2,h3⟩:=zmw hk;have hf:=zdb { w with out:=w.out++[⟨f,l,ty,w.new,-1,0⟩] };have hs:(Wk.disp { w with out:=w.out++[⟨f,l,ty,w.new,-1,0⟩] }).sh≤w.out.length:=by
    unfold Wk.disp;split
    ·rename_i hw;have hw:w.wt=true:=hw;rw[if_pos hw]at a3;show w.sh+1≤_;omega
    ·rename_i hw;have hw:¬ w.wt=true:=hw;rw[if_neg hw]at a3;show w.sh≤_;omega
   generalize Wk.disp { w with out:=w.out++[⟨f,l,ty,w.new,-1,0⟩] }=d at *;simp only[qC,qF,qG]at h1 h3;obtain⟨f1,f2,f3,f4,f5,f6,f7,f8⟩:=hf;refine⟨by show SqOk d.sq;rw[f6];exact a1,by show d.out.length≤m+1;omega,?_,?_,?_,?_⟩
   ·show 0≤d.sh∧d.sh+(if true=true then(1:Int)else 0)≤d.out.length;rw[if_pos rfl];omega
   ·show 0≤max 0 (d.no - 1)∧max 0 (d.no - 1)≤2;have:d.no=w.no:=f4;omega
   ·show -1≤(w.out.length:Int)∧(w.out.length:Int)<d.out.length;omega
   ·intro _;show 0≤(w.out.length:Int);omega
theorem zuj{L:List It}{w:Wk}{m:Nat}(h:WkOk w m)(i:Int)(hp:Pi):WkOk (w.picture L i hp) (m+1):=by
 have hd:=zcQ h;have hsk:∀{v:Wk},WkOk v m→WkOk { v with sk:=true } (m+1):=fun{v} h=>⟨h.sq,by have:=h.n;show v.out.length≤m+1;omega,h.sh,h.no,h.new,h.wt⟩;unfold Wk.picture;dsimp only;split
 ·exact hsk hd
 ·split
  ·exact zj0 hd _ _ _
  ·split
   ·exact zj0 (w:={ w with op:= -1 }) ⟨h.sq,h.n,h.sh,h.no,h.new,h.wt⟩ _ _ _
   ·exact⟨h.sq,by have:=h.n;show w.out.length≤m+1;omega,h.sh,h.no,h.new,h.wt⟩
set_option maxHeartbeats 4000000 in
set_option maxRecDepth 100000 in
theorem zrR(L:List It)(fl:Bool)(hL:∀ x∈L,SqOk x.s)(w:Wk)(k:Nat)(hk:k<L.length)(i j:Nat)(H:za)(h:WkH H i j L fl w)(hw:WkOk w 900000)(hop:OpR L w.op):
  CallOk Tryz.prog 115 [.ptr i 0 0,.int .i64 (k:Int)] H (.tup []) (wR H i j L fl (w.picture L (k:Int) L[k].p)):=by
 have hil:i<H.length:=(qA.1 h.gi).1;have hjl:j<H.length:=(qA.1 h.gj).1;have hne:=h.ne;have t0:=wrt H i j L fl hil hjl h.ne;have hsq:=hw.sq.toL;have g:=wkg (j:=j) (L:=L) (fl:=fl) w hsq;have s:=wks (j:=j) (L:=L) (fl:=fl) w hsq;have ln:=zak L hL;have ip:=zd6 L hL k hk;have hself:=zdW h;have pv:=fun K=>zcZ w.sq L[k].p K hw.sq;have hH:=fun(K:za) (v:Wk)=>zum (H++K) i j L fl v (by simp;omega) (by simp;omega) hne;have wf:=fun(K:za) (v:Wk) (hv:WkOk v 900000) (q:Nat) (hq:q<L.length) (last:Int)=>znE L fl hL v q hq last i j _ (hH K v) hv;have wd:=fun(K:za) (v:Wk) (hv:SqL v.sq)=>zgJ L fl v i j _ (hH K v) hv;simp only[zoI _ _ _ _ _ _ _ hne]at wf wd;generalize hr:w.picture L (k:Int) L[k].p=r;unfold Wk.picture at hr;dsimp only at hr;have wfk:=fun K v hv=>wf K v hv k hk;generalize L[k].p=p at *;have p1:(pic p).length=6:=rfl;have p2:(pic p).all PV.cell=true:=rfl;have p3:qE 6 (pic p)=pic p:=rfl;have p4:(pic p)[1]? =some (.int .i64 p.st):=rfl;have p5:(pic p)[3]? =some (.bool p.tf):=rfl;have hfin:=fun P w=>zlu H [P] i j L fl w hil hjl;refine CallOk.go Tryz.func115 Tryz.ntmps115 Tryz.results115 ?_;refine PW.eq rfl hself.symm ?_;refine PW.f (fun K k=>by simp(maxSteps:=3000000) (disch:=omega) only[go_sem,↓reduceIte,reduceCtorEq,t0.gi,g.ln,g.lL,ln,ip,p2];exact k) ?_;have hYl:=zbN H i j L fl w;have a0:∀ v P,(wR (H++[P]) i j L fl v)[H.length]? =some P:=fun v P=>by rw[zcq _ _ _ _ _ _ _ hil hjl,qB (by rw[zbN];omega),zbN,qQ];rfl
 refine PW.at [0,1,4] (?_:PW _ _ _ [(0,.ptr i 0 0),(1,.int .i64 (k:Int)),(4,.ptr H.length 0 0)] (wR (H++[⟨35,0,pic p⟩]) i j L fl w) _) (by rw[←hYl];rfl) (by rw[zcq _ _ _ _ _ _ _ hil hjl];rfl);have t:=fun P=>wrt (H++[P]) i j L fl (by simp;omega) (by simp;omega) hne;have tgi:=fun P w=>(t P).gi w;have tsk:=fun P w v=>(t P).sk w v;have top:=fun P w v=>(t P).op w v;suffices hpr:PW Tryz.prog _ _ [(0,.ptr i 0 0),(1,.int .i64 (k:Int)),(4,.ptr H.length 0 0),(5,.bool (decide (0≤w.op)&&zbT (hdA L (max w.op 0)) p))] (wR (H++[⟨35,0,pic p⟩]) i j L fl w) _ by
  rcases hop with ho|⟨k2,ho,hk2⟩
  ·have e0:decide (0≤w.op)=false:=by rw[ho];rfl
   rw[e0]at hpr;(repeat refine PW.seq ?_);refine PW.drawg mix kr fun K hK=> ?_;simp(maxSteps:=3000000) (disch:=omega) only[go_sem,↓reduceIte,reduceCtorEq,tgi,g.ln,g.op,e0];refine hK _ _ ?_;clear hK K;exact PW.at [0,1,4,5] hpr rfl rfl
  ·have e0:decide (0≤w.op)=true:=decide_eq_true om;have em:(if(0:Int)<(k2:Int)then(k2:Int)else 0)=(k2:Int):=by split<;>omega
   have em2:max w.op 0=(k2:Int):=om;have ip2:=zd6 L hL k2 hk2;rw[em2,zgw L k2 hk2,e0]at hpr;have go:=g.op;generalize L[k2].p=g2 at *;have pr:=fun K=>zqo g2 p K;have y1:(pic g2).length=6:=rfl;have y2:(pic g2).all PV.cell=true:=rfl;(repeat refine PW.seq ?_);refine PW.drawg mix kr fun K hK=> ?_;simp(maxSteps:=3000000) (disch:=omega) only[go_sem,↓reduceIte,reduceCtorEq,tgi,g.ln,g.lL,go,e0,ho,em,ln,ip2,a0,p1,p2,p3,y1,y2];refine VCz.call (fun _=>pr _) rfl ?_;simp(maxSteps:=3000000) (disch:=omega) only[go_sem,↓reduceIte,reduceCtorEq];refine hK _ _ ?_;clear hK K;exact PW.at [0,1,4,5] hpr rfl rfl
 generalize hpq:(decide (0≤w.op)&&zbT (hdA L (max w.op 0)) p)=q at *;suffices hrest:PW Tryz.prog _ _ [(0,.ptr i 0 0),(1,.int .i64 (k:Int)),(4,.ptr H.length 0 0),(5,.bool q),(68,.bool (!w.hd||(!(zH w.sq p)||(!(p.st==3)&&(!q&& !(zcc p))))))] (wR (H++[⟨35,0,pic p⟩]) i j L fl w) _ by
  have ghd:=g.hd;rcases qH w.hd with hh|hh;rotate_left
  ·have gh:(wkc j L fl w)[1]? =some (.bool false):=ghd.trans (by rw[hh]);have e:(!w.hd||(!(zH w.sq p)||(!(p.st==3)&&(!q&& !(zcc p)))))=true:=by rw[hh];rfl
   rw[e]at hrest;(repeat refine PW.seq ?_);refine PW.drawg mix kr fun K hK=> ?_;simp(maxSteps:=3000000) (disch:=omega) only[go_sem,↓reduceIte,reduceCtorEq,tgi,g.ln,gh];refine hK _ _ ?_;clear hK K;exact PW.at [0,1,4,5,68] hrest rfl rfl
  have gh:(wkc j L fl w)[1]? =some (.bool true):=ghd.trans (by rw[hh]);rw[hh]at hrest;rcases qH (zH w.sq p)with hv|hv;rotate_left
  ·rw[hv]at hrest pv;(repeat refine PW.seq ?_);refine PW.drawg mix kr fun K hK=> ?_;simp(maxSteps:=3000000) (disch:=omega) only[go_sem,↓reduceIte,reduceCtorEq,tgi,g.ln,gh,g.sq,a0,p1,p2,p3];refine VCz.call (fun _=>pv _) rfl ?_;simp(maxSteps:=3000000) (disch:=omega) only[go_sem,↓reduceIte,reduceCtorEq];refine hK _ _ ?_;clear hK K;exact PW.at [0,1,4,5,68] hrest rfl rfl
  rw[hv]at hrest pv;rcases qH (p.st==3)with h3|h3
  ·have e3:(p.st !=3)=false:=by simp[bne,h3]
   rw[h3]at hrest;(repeat refine PW.seq ?_);refine PW.drawg mix kr fun K hK=> ?_;simp(maxSteps:=3000000) (disch:=omega) only[go_sem,↓reduceIte,reduceCtorEq,tgi,g.ln,gh,g.sq,a0,p1,p2,p3];refine VCz.call (fun _=>pv _) rfl ?_;simp(maxSteps:=3000000) (disch:=omega) only[go_sem,↓reduceIte,reduceCtorEq,a0,p1,p4,e3];refine hK _ _ ?_;clear hK K;exact PW.at [0,1,4,5,68] hrest rfl rfl
  have e3:(p.st !=3)=true:=by simp[bne,h3]
  rw[h3]at hrest;cases q with
  | true=>
   (repeat refine PW.seq ?_);refine PW.drawg mix kr fun K hK=> ?_;simp(maxSteps:=3000000) (disch:=omega) only[go_sem,↓reduceIte,reduceCtorEq,tgi,g.ln,gh,g.sq,a0,p1,p2,p3];refine VCz.call (fun _=>pv _) rfl ?_;simp(maxSteps:=3000000) (disch:=omega) only[go_sem,↓reduceIte,reduceCtorEq,a0,p1,p4,e3];refine hK _ _ ?_;clear hK K;exact PW.at [0,1,4,5,68] hrest rfl rfl
  | false=>
   have e5:(p.tf !=(p.st==1))= !zcc p:=by rw[zcc];cases p.tf<;>cases(p.st==1)<;>rfl
   (repeat refine PW.seq ?_);refine PW.drawg mix kr fun K hK=> ?_;simp(maxSteps:=3000000) (disch:=omega) only[go_sem,↓reduceIte,reduceCtorEq,tgi,g.ln,gh,g.sq,a0,p1,p2,p3];refine VCz.call (fun _=>pv _) rfl ?_;simp(maxSteps:=3000000) (disch:=omega) only[go_sem,↓reduceIte,reduceCtorEq,a0,p1,p4,p5,e3,e5];refine hK _ _ ?_;clear hK K;exact PW.at [0,1,4,5,68] hrest rfl rfl
 generalize hcd:(!w.hd||(!(zH w.sq p)||(!(p.st==3)&&(!q&& !(zcc p)))))=cd at *;cases cd with
 | true=>
  rw[if_pos rfl]at hr;subst hr;have wd1:=wd [⟨35,0,pic p⟩] w hsq;have g1:=wkg (j:=j) (L:=L) (fl:=fl) w.drop hsq;have s1:=wks (j:=j) (L:=L) (fl:=fl) w.drop hsq;refine PW.t ?_;refine PW.f (fun K k=>by simp(maxSteps:=3000000) (disch:=omega) only[go_sem,↓reduceIte,reduceCtorEq];refine VCx.call (wd1) rfl ?_;simp(maxSteps:=3000000) (disch:=omega) only[go_sem,↓reduceIte,reduceCtorEq];exact k) ?_;refine PW.f (fun K k=>by simp(maxSteps:=3000000) (disch:=omega) only[go_sem,↓reduceIte,reduceCtorEq,tgi,g1.ln,s1.sk,tsk];exact k) ?_;exact PW.ret ⟨_,rfl,hfin _ _⟩
 | false=>
  rw[if_neg sp]at hr;refine PW.us ?_;refine PW.b ?_;refine PW.g (nq2 a0 (nq2 p1 p4)) ?_;by_cases h3:p.st=3
  ·rw[if_pos h3]at hr;subst hr;have wd1:=wd [⟨35,0,pic p⟩] w hsq;have wf1:=wfk [⟨35,0,pic p⟩] w.drop (zcQ hw) (k:Int);refine PW.c (fun h=> ?_) (fun h=> ?_);rotate_left
   ·simp[h3]at h
   refine PW.f (fun K k=>by simp(maxSteps:=3000000) (disch:=omega) only[go_sem,↓reduceIte,reduceCtorEq];refine VCx.call (wd1) rfl ?_;simp(maxSteps:=3000000) (disch:=omega) only[go_sem,↓reduceIte,reduceCtorEq];exact k) ?_;refine PW.f (fun K k=>by simp(maxSteps:=3000000) (disch:=omega) only[go_sem,↓reduceIte,reduceCtorEq];refine VCx.call (wf1) rfl ?_;simp(maxSteps:=3000000) (disch:=omega) only[go_sem,↓reduceIte,reduceCtorEq];exact k) ?_;exact⟨_,rfl,hfin _ _⟩
  rw[if_neg h3]at hr;refine PW.c (fun h=> ?_) (fun h=> ?_)
  ·simp[h3]at h
  refine PW.e ?_;cases q with
  | true=>
   rw[if_pos rfl]at hr;subst hr;refine PW.t ?_;obtain⟨k2,ho,hk2⟩:∃ k2:Nat,w.op=(k2:Int)∧k2<L.length:=by
    rcases hop with ho|ho
    ·rw[ho]at hpq;simp at hpq
    ·exact ho
   have wf1:=wf [⟨35,0,pic p⟩] { w with op:= -1 } ⟨hw.sq,hw.n,hw.sh,hw.no,hw.new,hw.wt⟩ k2 hk2 (k:Int);rw[ho,zgw L k2 hk2];have go:(wkc j L fl w)[140]? =some (.int .i64 (k2:Int)):=g.op.trans (by rw[ho]);refine PW.f (fun K k=>by simp(maxSteps:=3000000) (disch:=omega) only[go_sem,↓reduceIte,reduceCtorEq,tgi,g.ln,go];exact k) ?_;refine PW.f (fun K k=>by simp(maxSteps:=3000000) (disch:=omega) only[go_sem,↓reduceIte,reduceCtorEq,tgi,g.ln,s.op,top];exact k) ?_;refine PW.f (fun K k=>by simp(maxSteps:=3000000) (disch:=omega) only[go_sem,↓reduceIte,reduceCtorEq];refine VCx.call (wf1) rfl ?_;simp(maxSteps:=3000000) (disch:=omega) only[go_sem,↓reduceIte,reduceCtorEq];exact k) ?_;exact⟨_,rfl,hfin _ _⟩
  | false=>rw[if_neg sp]at hr;subst hr;refine PW.u ?_;have wd1:=wd [⟨35,0,pic p⟩] w hsq;have g1:=wkg (j:=j) (L:=L) (fl:=fl) w.drop hsq;have s1:=wks (j:=j) (L:=L) (fl:=fl) w.drop hsq;refine PW.f (fun K k=>by simp(maxSteps:=3000000) (disch:=omega) only[go_sem,↓reduceIte,reduceCtorEq];refine VCx.call (wd1) rfl ?_;simp(maxSteps:=3000000) (disch:=omega) only[go_sem,↓reduceIte,reduceCtorEq];exact k) ?_;refine PW.f (fun K k=>by simp(maxSteps:=3000000) (disch:=omega) only[go_sem,↓reduceIte,reduceCtorEq,tgi,g1.ln,s1.op,top];exact k) ?_;exact⟨_,rfl,hfin _ _⟩
theorem zui{w:Wk}{m:Nat}(h:WkOk w m)(s:Sq)(hs:SqOk s):WkOk (w.seq s) m:=by
 unfold Wk.seq;split
 ·have:=zcy h;exact⟨hs,this.n,this.sh,this.no,this.new,this.wt⟩
 ·exact h
theorem zmt{L:List It}{w:Wk}{m:Nat}(h:WkOk w m)(i:Int)(x:It)(hx:SqOk x.s):WkOk (w.step L i x) (m+1):=by
 have hd:=zcQ h;have mn:∀{v:Wk},WkOk v m→WkOk v (m+1):=fun h=>h.mono om;unfold Wk.step;split
 ·exact zuj h _ _
 ·split
  ·exact mn (zui hd _ hx)
  ·split
   ·unfold Wk.grp;split
    ·exact mn (zcy hd)
    ·split
     ·exact⟨hd.sq,(mn hd).n,hd.sh,by show 0≤(2:Int)∧(2:Int)≤2;omega,hd.new,hd.wt⟩
     ·exact⟨hd.sq,(mn hd).n,hd.sh,by show 0≤(0:Int)∧(0:Int)≤2;omega,hd.new,hd.wt⟩
   ·split
    ·have:=mn (zcy hd);exact⟨this.sq,this.n,this.sh,this.no,this.new,this.wt⟩
    ·exact mn hd
set_option maxHeartbeats 4000000 in
set_option maxRecDepth 100000 in
theorem zoE(L:List It)(fl:Bool)(hL:∀ x∈L,SqOk x.s)(w:Wk)(k:Nat)(hk:k<L.length)(i j:Nat)(H:za)(h:WkH H i j L fl w)(hw:WkOk w 900000)(hop:OpR L w.op):
  CallOk Tryz.prog 57 [.ptr i 0 0,.int .i64 (k:Int)] H (.tup []) (wR H i j L fl (w.step L (k:Int) L[k])):=by
 have hil:i<H.length:=(qA.1 h.gi).1;have hjl:j<H.length:=(qA.1 h.gj).1;have hne:=h.ne;have t0:=wrt H i j L fl hil hjl h.ne;have hsq:=hw.sq.toL;have g:=wkg (j:=j) (L:=L) (fl:=fl) w hsq;have ln:=zak L hL;have hx:=hL _ (qL hk);have ia:qE 148 (qI (k * 148) (itL L))=itc L[k]:=zfO L hL k hk;have hself:=zdW h;have hH:=fun(K:za) (v:Wk)=>zum (H++K) i j L fl v (by simp;omega) (by simp;omega) hne;have wp:=fun(K:za)=>zrR L fl hL w k hk i j _ (hH K w) hw hop;have wd:=fun(K:za) (v:Wk) (hv:SqL v.sq)=>zgJ L fl v i j _ (hH K v) hv;have wr:=fun(K:za) (v:Wk) (hv:WkOk v 1000000)=>zia L fl v i j _ (hH K v) hv;simp only[zoI _ _ _ _ _ _ _ hne]at wp wd wr;have vs:=fun K=>zeH L[k].s K hx;have ne:=ztX w.sq L[k].s hsq hx.toL;generalize hr:w.step L (k:Int) L[k]=r;unfold Wk.step at hr;generalize L[k]=x at *;have x1:=zbZ x hx;have x2:=zcG x;have x3:=zbK x;have x4:qE 135 (qI 1 (itc x))=sqc x.s:=zk3 _ hx;have x5:(itc x)[136]? =some (.bool x.gc):=zcd _ hx 0;have x6:(itc x)[137]? =some (.bool x.gb):=zcd _ hx 1;have x7:qE 148 (itc x)=itc x:=qP om;have q1:=zB _ hx.toL;have q2:=zaI x.s;have hfin:=fun P w=>zlu H [P] i j L fl w hil hjl;refine CallOk.go Tryz.func57 Tryz.ntmps57 Tryz.results57 ?_;refine PW.eq rfl hself.symm ?_;refine PW.f (fun K k=>by simp(maxSteps:=3000000) (disch:=omega) only[go_sem,↓reduceIte,reduceCtorEq,t0.gi,g.ln,g.lL,ln,ia,x1,x2,x7];exact k) ?_;have hYl:=zbN H i j L fl w;have a0:∀ v P,(wR (H++[P]) i j L fl v)[H.length]? =some P:=fun v P=>by rw[zcq _ _ _ _ _ _ _ hil hjl,qB (by rw[zbN];omega),zbN,qQ];rfl
 refine PW.at [0,1,4] (?_:PW _ _ _ [(0,.ptr i 0 0),(1,.int .i64 (k:Int)),(4,.ptr H.length 0 0)] (wR (H++[⟨43,0,itc x⟩]) i j L fl w) _) (by rw[←hYl];rfl) (by rw[zcq _ _ _ _ _ _ _ hil hjl]);have t:=fun P=>wrt (H++[P]) i j L fl (by simp;omega) (by simp;omega) hne;have tgi:=fun P w=>(t P).gi w;have tno:=fun P w v=>(t P).no w v;have thd:=fun P w v=>(t P).hd w v;refine PW.g (nq2 a0 (nq2 x1 x3)) ?_;by_cases h3:x.k=3
 ·rw[if_pos h3]at hr;subst hr;have wp1:=wp [⟨43,0,itc x⟩];refine PW.c (fun h=> ?_) (fun h=> ?_);rotate_left
  ·simp[h3]at h
  refine PW.f (fun K k=>by simp(maxSteps:=3000000) (disch:=omega) only[go_sem,↓reduceIte,reduceCtorEq];refine VCx.call (wp1) rfl ?_;simp(maxSteps:=3000000) (disch:=omega) only[go_sem,↓reduceIte,reduceCtorEq];exact k) ?_;exact PW.ret ⟨_,rfl,hfin _ _⟩
 rw[if_neg h3]at hr;refine PW.c (fun h=> ?_) (fun h=> ?_)
 ·simp[h3]at h
 have wd1:=wd [⟨43,0,itc x⟩] w hsq;refine PW.skip ?_;refine PW.f (fun K k=>by simp(maxSteps:=3000000) (disch:=omega) only[go_sem,↓reduceIte,reduceCtorEq];refine VCx.call (wd1) rfl ?_;simp(maxSteps:=3000000) (disch:=omega) only[go_sem,↓reduceIte,reduceCtorEq];exact k) ?_;have hwd:=zcQ hw;have hdsq:SqL w.drop.sq:=hsq;have ne:zji Tryz.prog .neq 29 (.agg (sqc w.drop.sq)) (.agg (sqc x.s))=some (.bool (!sqE w.drop.sq x.s)):=ne;generalize w.drop=d at *;have g:=wkg (j:=j) (L:=L) (fl:=fl) d hdsq;have s:=wks (j:=j) (L:=L) (fl:=fl) d hdsq;have wr1:=wr [⟨43,0,itc x⟩] d (hwd.mono om);have hrsq:SqL d.reset.sq:=(zcy hwd).sq.toL;have gr:=wkg (j:=j) (L:=L) (fl:=fl) d.reset hrsq;have sr:=wks (j:=j) (L:=L) (fl:=fl) d.reset hrsq;refine PW.g (nq2 a0 (nq2 x1 x3)) ?_;refine PW.b ?_;refine PW.e ?_;by_cases h1:x.k=1
 ·rw[if_pos h1]at hr;unfold Wk.seq at hr;refine PW.c (fun h=> ?_) (fun h=> ?_);rotate_left
  ·simp[h1]at h
  suffices hrest:PW Tryz.prog _ _ [(0,.ptr i 0 0),(4,.ptr H.length 0 0),(37,.bool (!d.hd|| !(sqE d.sq x.s)))] (wR (H++[⟨43,0,itc x⟩]) i j L fl d) _ by
   have ghd:=g.hd;rcases qH d.hd with hh|hh
   ·have gh:(wkc j L fl d)[1]? =some (.bool true):=ghd.trans (by rw[hh]);rw[hh]at hrest;(repeat refine PW.seq ?_);refine PW.drawg mix kr fun K hK=> ?_;simp(maxSteps:=3000000) (disch:=omega) only[go_sem,↓reduceIte,reduceCtorEq,tgi,g.ln,gh,g.sq,a0,x1,x4,↓ne];refine hK _ _ ?_;clear hK K;exact PW.at [0,4,37] hrest rfl rfl
   ·have gh:(wkc j L fl d)[1]? =some (.bool false):=ghd.trans (by rw[hh]);rw[hh]at hrest;(repeat refine PW.seq ?_);refine PW.drawg mix kr fun K hK=> ?_;simp(maxSteps:=3000000) (disch:=omega) only[go_sem,↓reduceIte,reduceCtorEq,tgi,g.ln,gh];refine hK _ _ ?_;clear hK K;exact PW.at [0,4,37] hrest rfl rfl
  generalize (!d.hd|| !(sqE d.sq x.s))=c at *;cases c with
  | false=>
   rw[if_neg sp]at hr;subst hr;refine PW.us ?_;exact⟨_,rfl,hfin _ _⟩
  | true=>rw[if_pos rfl]at hr;subst hr;refine PW.t ?_;refine PW.f (fun K k=>by simp(maxSteps:=3000000) (disch:=omega) only[go_sem,↓reduceIte,reduceCtorEq];refine VCx.call (wr1) rfl ?_;simp(maxSteps:=3000000) (disch:=omega) only[go_sem,↓reduceIte,reduceCtorEq];exact k) ?_;have g1:=wkg (j:=j) (L:=L) (fl:=fl) { d.reset with hd:=za6 x.s } hrsq;(repeat refine PW.seq ?_);refine PW.drawi [i] [(0,[0]),(40,[0]),(41,[0]),(47,[0]),(48,[0]),(49,[0]),(50,[0])] [] [44] mix kr (by simp<;>omega) fun K hK=> ?_;refine sqx (nq2 a0 (nq2 x1 x4)) ?_;have d5:∀ v,qE 2 (wkc j L fl v)=[.slice (itL L) L.length fl,.bool v.hd]:=fun v=>rfl;have d6:∀ v:Wk,SqL v.sq→qI 137 (wkc j L fl v)=wtl j v:=fun v hv=>List.drop_left' (zB _ hv);have d7:=d6 { d.reset with hd:=za6 x.s } hrsq;refine VCj.read (fun _ _=>vs _) rfl ?_;simp(maxSteps:=3000000) (disch:=omega) only[go_sem,↓reduceIte,reduceCtorEq,tgi,thd,gr.ln,sr.hd,g1.ln,a0,x1,x4,q1,q2,d5,d7,List.cons_append,List.nil_append];refine hK _ _ ?_;clear hK K;have hb:=ziN (H++[⟨43,0,itc x⟩]) i j L fl { d.reset with hd:=za6 x.s } { d.reset with hd:=za6 x.s,sq:=x.s } hne rfl;have hf:=hfin ⟨43,0,itc x⟩ { d.reset with hd:=za6 x.s,sq:=x.s };rw[←hb]at hf;exact⟨_,rfl,hf⟩
 rw[if_neg h1]at hr;refine PW.c (fun h=> ?_) (fun h=> ?_)
 ·simp[h1]at h
 refine PW.e ?_;by_cases h2:x.k=2
 ·rw[if_pos h2]at hr;unfold Wk.grp at hr;refine PW.c (fun h=> ?_) (fun h=> ?_);rotate_left
  ·simp[h2]at h
  refine PW.g (nq2 a0 (nq2 x1 x5)) ?_;cases hc:x.gc with
  | true=>
   rw[hc,if_pos rfl]at hr;subst hr;refine PW.t ?_;refine PW.f (fun K k=>by simp(maxSteps:=3000000) (disch:=omega) only[go_sem,↓reduceIte,reduceCtorEq];refine VCx.call (wr1) rfl ?_;simp(maxSteps:=3000000) (disch:=omega) only[go_sem,↓reduceIte,reduceCtorEq];exact k) ?_;exact⟨_,rfl,hfin _ _⟩
  | false=>
   rw[hc,if_neg sp]at hr;refine PW.u ?_;refine PW.g (nq2 a0 (nq2 x1 x6)) ?_;cases hb:x.gb with
   | true=>
    rw[hb,if_pos rfl]at hr;subst hr;refine PW.t ?_;refine PW.f (fun K k=>by simp(maxSteps:=3000000) (disch:=omega) only[go_sem,↓reduceIte,reduceCtorEq,tgi,g.ln,s.no,tno];exact k) ?_;exact⟨_,rfl,hfin _ _⟩
   | false=>rw[hb,if_neg sp]at hr;subst hr;refine PW.u ?_;refine PW.f (fun K k=>by simp(maxSteps:=3000000) (disch:=omega) only[go_sem,↓reduceIte,reduceCtorEq,tgi,g.ln,s.no,tno];exact k) ?_;exact⟨_,rfl,hfin _ _⟩
 rw[if_neg h2]at hr;refine PW.c (fun h=> ?_) (fun h=> ?_)
 ·simp[h2]at h
 refine PW.e ?_;by_cases h4:x.k=4
 ·rw[if_pos h4]at hr;subst hr;refine PW.c (fun h=> ?_) (fun h=> ?_);rotate_left
  ·simp[h4]at h
  refine PW.f (fun K k=>by simp(maxSteps:=3000000) (disch:=omega) only[go_sem,↓reduceIte,reduceCtorEq];refine VCx.call (wr1) rfl ?_;simp(maxSteps:=3000000) (disch:=omega) only[go_sem,↓reduceIte,reduceCtorEq];exact k) ?_;refine PW.f (fun K k=>by simp(maxSteps:=3000000) (disch:=omega) only[go_sem,↓reduceIte,reduceCtorEq,tgi,gr.ln,sr.hd,thd];exact k) ?_;exact⟨_,rfl,hfin _ _⟩
 ·rw[if_neg h4]at hr;subst hr;refine PW.c (fun h=> ?_) (fun h=> ?_)
  ·simp[h4]at h
  refine PW.skip ?_;exact⟨_,rfl,hfin _ _⟩
theorem zjY(L:List It)(w:Wk)(k:Nat)(hk:k<L.length)(x:It)(h:OpR L w.op):OpR L (w.step L (k:Int) x).op:=by
 have h0:OpR L (-1):=.inl rfl;have hrs:∀ v:Wk,v.reset.op=v.op:=fun v=>(zdb v).2.2.2.2.2.2.1;have hfr:∀(v:Wk) f l ty,(v.frame f l ty).op=v.op:=fun v f l ty=>by
  unfold Wk.frame;split
  ·split<;>rfl
  ·split
   ·rfl
   ·exact(zdb _).2.2.2.2.2.2.1
 unfold Wk.step;split
 ·unfold Wk.picture;dsimp only;split
  ·exact h0
  ·split
   ·rw[hfr];exact h0
   ·split
    ·rw[hfr];exact h0
    ·exact .inr ⟨k,rfl,hk⟩
 ·split
  ·unfold Wk.seq;split
   ·show OpR L w.drop.reset.op;rw[hrs];exact h0
   ·exact h0
  ·split
   ·unfold Wk.grp;split
    ·rw[hrs];exact h0
    ·split<;>exact h0
   ·split
    ·show OpR L w.drop.reset.op;rw[hrs];exact h0
    ·exact h0
def wkf(L:List It)(fl:Bool)(w:Wk):List PV:=.slice (itL L) L.length fl:: .bool w.hd::(sqc w.sq++[.int .i64 w.old,.int .i64 w.new,.bool w.wt,.int .i64 w.op,.int .i64 w.no,.int .i64 w.sh,.slice (w.out.flatMap enR) w.out.length false,.bool w.sk])
def zwk:List PV:=.slice [] 0 true:: .bool false::(sqc sq0++[.int .i64 0,.int .i64 0,.bool false,.int .i64 0,.int .i64 0,.int .i64 0,.slice [] 0 true,.bool false])
theorem ztA{L:List It}(hL:∀ x∈L,SqOk x.s):∀(r:List It) (k:Nat) (w:Wk),L.drop k=r→WkOk w k→OpR L w.op→k≤L.length→WkOk (wkN L w k r) L.length∧OpR L (wkN L w k r).op
 | [],k,w,hr,hw,hop,hk=>⟨hw.mono hk,hop⟩
 | x::r,k,w,hr,hw,hop,hk=>by obtain⟨hkl,hx,hr2⟩:=ze5 hr;have e:wkN L w k (x::r)=wkN L (w.step L k x) ((k+1:Nat):Int) r:=rfl;rw[e];exact ztA hL r (k+1) _ hr2 (zmt hw _ x (by rw[←hx];exact hL _ (qL _))) (zjY L w k hkl x hop) om
theorem ztB:WkOk wk0 0:=⟨⟨by decide,by decide,by decide,by decide,by decide,by decide,rfl,rfl⟩,by simp[wk0],by simp[wk0],by simp[wk0],by simp[wk0],by simp[wk0]⟩
set_option maxHeartbeats 4000000 in
set_option maxRecDepth 100000 in
theorem znG(L:List It)(fl:Bool)(hL:∀ x∈L,SqOk x.s)(hn:L.length≤800000)(H:za):CallOk Tryz.prog 28 [.slice (itL L) L.length fl] H (.agg (wkf L fl (zaO L))) H:=by
 refine CallOk.go Tryz.func28 Tryz.ntmps28 Tryz.results28 ?_;refine PW.e ?_;refine PW.e ?_;refine PW.view (Vs.ghostH (id:=H.length+1) (j:=143) 80 6 (hp1 _ _ _ _) rfl) ?_;refine PW.at [0,2,3] (?_:PW _ _ _ [(0,.slice (itL L) L.length fl),(2,.ptr H.length 0 0),(3,.ptr (H.length+1) 0 0)] (H++[⟨77,0,zwk⟩,wkB (H.length+2) L fl wk0,woB []]) _) rfl (by
  rw[zdy,List.append_assoc];simp only[qC,qF,qG,Nat.zero_add];rfl)
 obtain⟨B,hB⟩:∃ B:za,B=H++[⟨77,0,zwk⟩,wkB (H.length+2) L fl wk0,woB []]:=⟨_,rfl⟩;have hBl:B.length=H.length+3:=by rw[hB];simp
 have hBg:∀ k:Nat,B[H.length+k]? =([⟨77,0,zwk⟩,wkB (H.length+2) L fl wk0,woB []]:za)[k]? :=fun k=>by rw[hB,qB om,qD]
 have hW0:WkH B (H.length+1) (H.length+2) L fl wk0:=⟨hBg 1,hBg 2,om⟩;rw[←hB,←zdW hW0];have hH:=fun(v:Wk)=>zum B (H.length+1) (H.length+2) L fl v om om om;have hne:H.length+1≠H.length+2:=om;have ws:=fun(v:Wk) (hv:WkOk v 900000) (ho:OpR L v.op) (k:Nat) (hk:k<L.length)=>zoE L fl hL v k hk _ _ _ (hH v) hv ho;have wd:=fun(v:Wk) (hv:SqL v.sq)=>zgJ L fl v _ _ _ (hH v) hv;have wr:=fun(v:Wk) (hv:WkOk v 1000000)=>zia L fl v _ _ _ (hH v) hv;simp only[zoI _ _ _ _ _ _ _ hne]at ws wd wr;refine PW.e ?_;refine PW.l ?_;suffices hloop:∀(r:List It) (k:Nat) (w:Wk),L.drop k=r→WkOk w k→OpR L w.op→k≤L.length→wkN L w k r=wkN L wk0 0 L→
   PL Tryz.prog _ _ [(0,.slice (itL L) L.length fl),(2,.ptr H.length 0 0),(3,.ptr (H.length+1) 0 0),(4,.int .i64 (k:Int))] (wR B (H.length+1) (H.length+2) L fl w) _ by
  exact PL.at [0,2,3,4] (hloop L 0 wk0 rfl ztB (.inl rfl) (Nat.zero_le _) rfl) rfl rfl
 intro r;induction r with
 | nil=>
  intro k w hr hw hop hk he;have hkl:k=L.length:=by have:=List.drop_eq_nil_iff.1 hr;omega
  subst hkl;refine PL.round ?_;refine PW.e ?_;refine PW.u ?_;refine PW.exit ?_;have he:w=wkN L wk0 0 L:=he;have wd1:=wd w hw.sq.toL;have wr1:=wr w.drop ((zcQ hw).mono om);have hfin:w.drop.reset=zaO L:=by rw[he];rfl
  have hok:=zcy (zcQ hw);rw[hfin]at wr1 hok;refine PW.f (fun K k=>by simp(maxSteps:=3000000) (disch:=omega) only[go_sem,↓reduceIte,reduceCtorEq];refine VCx.call (wd1) rfl ?_;simp(maxSteps:=3000000) (disch:=omega) only[go_sem,↓reduceIte,reduceCtorEq];exact k) ?_;refine PW.f (fun K k=>by simp(maxSteps:=3000000) (disch:=omega) only[go_sem,↓reduceIte,reduceCtorEq];refine VCx.call (wr1) rfl ?_;simp(maxSteps:=3000000) (disch:=omega) only[go_sem,↓reduceIte,reduceCtorEq];exact k) ?_;generalize zaO L=v at *;have hsq:=hok.sq.toL;have gi:=(hH v).gi;unfold wkB at gi;have l1:=zmu (j:=H.length+2) (L:=L) (fl:=fl) v hsq;have l2:qE 145 (wkc (H.length+2) L fl v)=wkc (H.length+2) L fl v:=qP om;have l3:(wkc (H.length+2) L fl v).all PV.cell=true:=by simp[wkc,wtl,zaI,PV.cell]
  have g0:(wR B (H.length+1) (H.length+2) L fl v)[H.length]? =some ⟨77,0,zwk⟩:=by unfold wR tw;rw[qJ om,qJ om];exact hBg 0
  have z1:zwk.length=145:=rfl;have z2:qI 145 zwk=[]:=rfl;have hs:∀ X,((wR B (H.length+1) (H.length+2) L fl v).set H.length X)[H.length]? =some X:=fun X=>by rw[qN (by rw[zbN];omega)]
  refine PW.f (fun K k=>by simp(maxSteps:=3000000) (disch:=omega) only[go_sem,↓reduceIte,reduceCtorEq,gi,g0,l1,l2,l3,z1,z2,List.append_nil];exact k) ?_;refine PW.w (.agg (wkc (H.length+2) L fl v)) (nq2 hs (nq2 l1 l2)) ?_;have hheap:(wR B (H.length+1) (H.length+2) L fl v).set H.length ⟨77,0,wkc (H.length+2) L fl v⟩=H++[⟨77,0,wkc (H.length+2) L fl v⟩,wkB (H.length+2) L fl v,woB v.out]:=by unfold wR tw;have e0:=fun K X=>zdy H K 0 X;simp only[Nat.add_zero]at e0;rw[hB,zdy,zdy,e0];rfl
  rw[hheap];refine Fin.base (Fz.aggC ⟨.id (zl (zcw _ _)),.id (.bool _),FzC.append (FzC.refl (zV _ _)) ⟨.id (.int _ _),.id (.int _ _),.id (.bool _),.id (.int _ _),.id (.int _ _),.id (.int _ _),?_,.id (.bool _),trivial⟩⟩);exact Fz.mslC (e:=80) (xs:=v.out.flatMap enR) om (by rw[qB om,qD];rfl) (zda _) (FzC.refl (zlt _ _))
 | cons x r ih=>intro k w hr hw hop hk he;obtain⟨hkl,hx,hr2⟩:=ze5 hr;refine PL.round ?_;refine PW.e ?_;refine PW.t ?_;have e0:wkN L w k (x::r)=wkN L (w.step L k x) ((k+1:Nat):Int) r:=rfl;have ws1:=ws w (hw.mono om) hop k hkl;rw[hx]at ws1;refine PW.skip ?_;refine PW.b ?_;refine PW.f (fun K k=>by simp(maxSteps:=3000000) (disch:=omega) only[go_sem,↓reduceIte,reduceCtorEq];refine VCx.call (ws1) rfl ?_;simp(maxSteps:=3000000) (disch:=omega) only[go_sem,↓reduceIte,reduceCtorEq];exact k) ?_;refine PW.e ?_;exact PL.at [0,2,3,4] (ih (k+1) (w.step L k x) hr2 (zmt hw _ x (by rw[←hx];exact hL _ (qL _))) (zjY L w k hkl x hop) om (by rw[←he,e0])) rfl rfl
theorem zxl(H:za):CallOk Tryz.prog 9 [] H (.bool true) H:=CallOk.evalT 1000000 kr
theorem zhQ{L:List It}(hL:∀ x∈L,SqOk x.s):∀ n,n≤L.length→SqOk (cur L n)
 | 0,_=>by
  show SqOk sq0;exact⟨by decide,by decide,by decide,by decide,by decide,by decide,rfl,rfl⟩
 | n+1,h=>by
  rw[zfk (show n<L.length from om)];split
  ·exact hL _ (qL _)
  ·exact zhQ hL n om
theorem zse{L:List It}(hL:∀ x∈L,SqOk x.s){j:Nat}{e:Ent}(he:(zaa L)[j]? =some e):SqOk e.2.1:=by obtain⟨n,m,hn,hm,_,_,_,_,_,_,h,_⟩:=((zgY L).e j e he).1;rw[h];exact zhQ hL n om
theorem zpk{L:List It}(hL:∀ x∈L,SqOk x.s):(zaa L).length≤L.length:=(zff (zrd L hL L 0 (as0 sq0) dp0 rfl (zrB L) zuc (Nat.zero_le _))).1.ok.n
theorem zvK(e:Ent)(h:SqL e.2.1):qE 135 (qI 6 (zn e))=sqc e.2.1:=by show qE 135 (sqc e.2.1++pic e.2.2)=_;exact List.take_left' (zB _ h)
theorem zvL(e:Ent)(h:SqL e.2.1)(n:Nat):(zn e)[141+n]? =(pic e.2.2)[n]? :=by
 have e1:qI 141 (zn e)=pic e.2.2:=by show qI 135 (sqc e.2.1++pic e.2.2)=_;exact List.drop_left' (zB _ h)
 rw[←List.getElem?_drop,e1]
end Go.Proofs.YtpjlfoficnpfoaaGreatDoor.Sc
