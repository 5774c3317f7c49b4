/-
  Parts of the proof. No condition.
-/
import Derived.Test.YtdajpjenhcobkaaGreatDoorX07
import Derived.Test.YtdajpjenhcobkaaGreatDoorX37
open Go.Proofs.Tryz renaming prog → qA
set_option linter.all false
set_option maxRecDepth 100000
set_option maxHeartbeats 32000000
namespace Go.Proofs.YtdajpjenhcobkaaGreatDoor
namespace Sc
open Pm Ty Go.RowKit
structure En where
 f:Int
 l:Int
 ty:Int
 pa:Int
 fu:Int
 sh:Int
def zc3(a b:Pi):Bool:= !(a.st==3)&&(!(b.st==3)&&(!(a.st==b.st)&&((a.ty==b.ty)&&((a.od==b.od)&&((a.tf==b.tf)&&(a.rp==b.rp))))))
def zd1(h:Pi):Bool:=h.tf==(h.st==1)
def piY0:Pi:=⟨0,0,0,false,false,false⟩
def hdA(L:List It)(n:Int):Pi:=match L[n.toNat]? with|some x=>x.p|none=>piY0
structure As where
 sq:Sq
 kn:Bool
 op:Int
 rs:Bool
 lk:Int
structure FmY where
 f:Int
 l:Int
 sq:Sq
 hd:Pi
 rs:Bool
 lk:Int
def As.clr(a:As):As:={ a with rs:=true,lk:= -1 }
def As.cmp(a:As)(f l:Int)(h:Pi):As×Option FmY:=({ a with rs:=false,lk:= -1 },some ⟨f,l,a.sq,h,a.rs,a.lk⟩)
def As.pic(L:List It)(a:As)(i:Int)(h:Pi):As×Option FmY:=
 if(a.kn&&zP a.sq h)=false then({ a with op:= -1 },none)
 else if h.st=3 then As.cmp { a with op:= -1 } i i h
 else if a.op≠-1/\zc3 (hdA L a.op) h=true then As.cmp { a with op:= -1 } a.op i (hdA L a.op)
 else if zd1 h=true then({ a with op:=i },none)
 else({ a with op:= -1 },none)
def As.seq(a:As)(s:Sq):As:=if(a.kn&&sqE a.sq s)=true then a else{ a.clr with sq:=s,kn:=zcT s }
def As.grp(a:As)(c b:Bool):As:=if c then a.clr else if b then{ a with lk:=2 }else{ a with lk:=0 }
def As.fin(a:As):As:={ a.clr with kn:=false }
abbrev Ent:=En×Sq×Pi
def zvC(v:Int)(e:Ent):Ent:=({ e.1 with sh:=v },e.2)
structure Dp where
 en:List Ent
 old:Int
 new:Int
 wt:Bool
 lk:Int
 sh:Int
def Dp.show(d:Dp)(n:Int):Dp:={ d with en:=d.en.modify n.toNat (zvC d.sh),sh:=d.sh+1 }
def Dp.flush(d:Dp):Dp:=if d.wt then{ d.show d.new with wt:=false }else d
def fmE(f:FmY)(pa fu:Int):Ent:=(⟨f.f,f.l,f.hd.ty,pa,fu,0⟩,f.sq,f.hd)
def Dp.frame(d:Dp)(f:FmY):Dp:=
 if f.hd.ty=3 then
  if d.lk≠0\/d.old= -1\/d.new= -1 then d
  else Dp.show { d with en:=d.en++[fmE f d.old d.new] } d.en.length
 else if f.hd.ty=2/\d.new= -1 then d
 else
  let e:=Dp.flush { d with en:=d.en++[fmE f d.new (-1)] }
  { e with old:=e.new,new:=d.en.length,wt:=true,lk:=max 0 (e.lk - 1) }
def Dp.res(d:Dp)(rs:Bool):Dp:=if rs then{ d.flush with old:= -1,new:= -1,lk:=0 }else d
def Dp.lnk(d:Dp)(lk:Int):Dp:=if lk≠-1 then{ d with lk:=lk }else d
def Dp.step(d:Dp)(f:FmY):Dp:=((d.res f.rs).lnk f.lk).frame f
def sq0:Sq:=⟨0,0,0,0,false,0,0,List.replicate 64 0,List.replicate 64 0⟩
structure Wk where
 hd:Bool
 sq:Sq
 old:Int
 new:Int
 wt:Bool
 op:Int
 no:Int
 sh:Int
 out:List En
 sk:Bool
def zxj(v:Int)(e:En):En:={ e with sh:=v }
def Wk.disp(w:Wk):Wk:=if w.wt then{ w with out:=w.out.modify w.new.toNat (zxj w.sh),sh:=w.sh+1 }else w
def Wk.reset(w:Wk):Wk:={ w.disp with old:= -1,new:= -1,wt:=false,no:=0 }
def Wk.drop(w:Wk):Wk:={ w with sk:=w.sk||decide (0<=w.op),op:= -1 }
def Wk.frame(w:Wk)(f l ty:Int):Wk:=
 if ty=3 then
  if w.no>0\/w.old<0\/w.new<0 then{ w with sk:=true }
  else{ w with out:=w.out++[⟨f,l,ty,w.old,w.new,w.sh⟩],sh:=w.sh+1 }
 else if ty=2/\w.new<0 then{ w with sk:=true }
 else
  let v:=Wk.disp { w with out:=w.out++[⟨f,l,ty,w.new,-1,0⟩] }
  { v with old:=v.new,new:=w.out.length,wt:=true,no:=max 0 (v.no - 1) }
def Wk.picture(L:List It)(w:Wk)(i:Int)(h:Pi):Wk:=
 let pr:=decide (0<=w.op)&&zc3 (hdA L (max w.op 0)) h
 if(!w.hd||(!(zP w.sq h)||(!(h.st==3)&&(!pr&& !(zd1 h)))))=true then{ w.drop with sk:=true }
 else if h.st=3 then w.drop.frame i i h.ty
 else if pr=true then Wk.frame { w with op:= -1 } w.op i (hdA L w.op).ty
 else{ w.drop with op:=i }
def Wk.seq(w:Wk)(s:Sq):Wk:=if(!w.hd|| !(sqE w.sq s))=true then{ w.reset with hd:=zcT s,sq:=s }else w
def Wk.grp(w:Wk)(c b:Bool):Wk:=if c then w.reset else if b then{ w with no:=2 }else{ w with no:=0 }
def Wk.step(L:List It)(w:Wk)(i:Int)(x:It):Wk:=
 if x.k=3 then w.picture L i x.p
 else if x.k=1 then w.drop.seq x.s
 else if x.k=2 then w.drop.grp x.gc x.gb
 else if x.k=4 then{ w.drop.reset with hd:=false }
 else w.drop
def zoM(a:As)(d:Dp):Dp:=(d.res a.rs).lnk a.lk
structure Same(w:Wk)(a:As)(d:Dp):Prop where
 hd:w.hd=a.kn
 sq:w.sq=a.sq
 op:w.op=a.op
 opr:w.op= -1\/0<=w.op
 old:w.old=(zoM a d).old
 new:w.new=(zoM a d).new
 wt:w.wt=(zoM a d).wt
 no:w.no=(zoM a d).lk
 sh:w.sh=(zoM a d).sh
 out:w.out=(zoM a d).en.map (·.1)
 nor:0<=w.no
 oldr: -1<=w.old
 newr: -1<=w.new
theorem map_set(en:List Ent)(n:Nat)(v:Int):(en.modify n (zvC v)).map (·.1)=(en.map (·.1)).modify n (zxj v):=by
 induction en generalizing n with
 | nil=>cases n<;>rfl
 | cons e r ih=>cases n with
  | zero=>rfl
  | succ n=>simp only[List.modify_succ_cons,List.map_cons,ih]
def cur(L:List It)(n:Nat):Sq:=(L.take n).foldl (λq x=>if x.k=1 then x.s else q) sq0
def FOk(L:List It)(f l:Int)(sq:Sq)(hd:Pi):Prop:=∃(n m:Nat) (hn:n<L.length) (hm:m<L.length),f=(n:Int)/\l=(m:Int)/\((m=n/\hd.st=3)\/(m=n+1/\zd1 hd=true/\zc3 hd L[m].p=true/\zP sq L[m].p=true))/\L[n].k=3/\L[m].k=3/\hd=L[n].p/\sq=cur L n/\zP sq hd=true
def EOk(L:List It)(j:Nat)(e:Ent):Prop:=FOk L e.1.f e.1.l e.2.1 e.2.2/\e.1.ty=e.2.2.ty/\(-1<=e.1.pa/\e.1.pa<j)/\(-1<=e.1.fu/\e.1.fu<j)/\(e.1.ty=3->0<=e.1.pa/\0<=e.1.fu)/\(e.1.ty=2->0<=e.1.pa)/\(e.1.ty≠3->e.1.fu= -1)
theorem EOk.set{L:List It}{j:Nat}{e:Ent}(h:EOk L j e)(v:Int):EOk L j (zvC v e):=h
structure DInv(L:List It)(d:Dp):Prop where
 e:∀(j:Nat) (x:Ent),d.en[j]? =some x->EOk L j x
 old: -1<=d.old/\d.old<d.en.length
 new: -1<=d.new/\d.new<d.en.length
 wn:d.wt=true->0<=d.new
 sh:d.sh=d.en.length - (if d.wt then 1 else 0)
 s:∀(j:Nat) (x:Ent),d.en[j]? =some x->(d.wt=true/\(j:Int)=d.new)\/(0<=x.1.sh/\x.1.sh<d.sh)
 i:∀(j k:Nat) (x y:Ent),d.en[j]? =some x->d.en[k]? =some y->¬(d.wt=true/\(j:Int)=d.new)->¬(d.wt=true/\(k:Int)=d.new)->x.1.sh=y.1.sh->j=k
structure SInv(L:List It)(es:List Ent):Prop where
 e:∀(j:Nat) (x:Ent),es[j]? =some x->EOk L j x
 s:∀(j:Nat) (x:Ent),es[j]? =some x->0<=x.1.sh/\x.1.sh<es.length
 i:∀(j k:Nat) (x y:Ent),es[j]? =some x->es[k]? =some y->x.1.sh=y.1.sh->j=k
def entc(e:Ent):List PV:=.int .i64 e.1.f:: .int .i64 e.1.l:: .int .i64 e.1.ty:: .int .i64 e.1.pa:: .int .i64 e.1.fu:: .int .i64 e.1.sh::(sqc e.2.1++pic e.2.2)
def dpB(j:Nat)(d:Dp):Blk:=⟨151,0,[.msl j (d.en.length * 147) 0 d.en.length 147 true,.int .i64 d.old,.int .i64 d.new,.bool d.wt,.int .i64 d.lk,.int .i64 d.sh]⟩
def enB(es:List Ent):Blk:=⟨78,es.length * 147,es.flatMap entc⟩
structure DpOk(d:Dp)(m:Nat):Prop where
 sq:∀ e∈d.en,SqL e.2.1
 n:d.en.length<=m
 sh:0<=d.sh/\d.sh<=d.en.length
 lk:0<=d.lk/\d.lk<=2
 new: -1<=d.new/\d.new<d.en.length
 old: -1<=d.old/\d.old<d.en.length
 wt:d.wt=true->0<=d.new
structure DpH(H:za)(i j:Nat)(d:Dp):Prop where
 gi:H[i]? =some (dpB j d)
 gj:H[j]? =some (enB d.en)
 ne:i≠j
structure DpG(d:Dp)(m:Nat):Prop where
 ok:DpOk d m
 cnt:d.sh+(if d.wt then 1 else 0)<=d.en.length
theorem ztH(h:Pi)(H:za):CallOk qA 30 [.agg (pic h)] H (.bool (zd1 h)) H:=by obtain⟨ty,st,od,tf,rp,al⟩:=h;refine .body (F0:=[(0,.agg (pic ⟨ty,st,od,tf,rp,al⟩))]) Tryz.func30 rfl Tryz.ntmps30 Tryz.results30 rfl kr rfl ?_;(repeat'(first|refine .seq ?_|((refine .rg rfl λK hK=> ?_);simp(maxSteps:=3000000) (disch:=omega) only[go_sem,pic])|(refine hK _ _ ?_;clear hK K)));all_goals((refine .ret ⟨_,rfl,?_⟩;refine .base (.id' ?_ (.bool _)));(simp_all[zd1,slot,Nat.beq]))
theorem zq1(a b:Pi)(H:za):CallOk qA 31 [.agg (pic a),.agg (pic b)] H (.bool (zc3 a b)) H:=by
 obtain⟨ty,st,od,tf,rp,al⟩:=a;obtain⟨ty',st',od',tf',rp',al'⟩:=b;refine .body (F0:=[(0,.agg (pic ⟨ty,st,od,tf,rp,al⟩)),(1,.agg (pic ⟨ty',st',od',tf',rp',al'⟩))]) Tryz.func31 rfl Tryz.ntmps31 Tryz.results31 rfl kr rfl ?_;(repeat'(first|refine .seq ?_|((refine .rg rfl λK hK=> ?_);simp(maxSteps:=3000000) (disch:=omega) only[go_sem,pic])|((refine zg ?_ ?_)<;>intro h<;>(try simp only[nqb]at h)<;>simp(maxSteps:=3000000) (disch:=omega) only[go_sem,pic,h])|(refine hK _ _ ?_;clear hK K)));all_goals((refine .ret ⟨_,rfl,?_⟩;refine .base (.id' ?_ (.bool _)));simp_all[zc3,slot,Nat.beq])
 grind
def OpR(L:List It)(n:Int):Prop:=n= -1\/∃ k:Nat,n=(k:Int)/\k<L.length
structure AsOk(L:List It)(a:As):Prop where
 sq:SqOk a.sq
 op:OpR L a.op
 lk: -1<=a.lk/\a.lk<=2
theorem DpG.mono{d:Dp}{m n:Nat}(h:DpG d m)(hm:m<=n):DpG d n:=⟨⟨h.ok.sq,by have:=h.ok.n;omega,h.ok.sh,h.ok.lk,h.ok.new,h.ok.old,h.ok.wt⟩,h.cnt⟩
theorem zq0(a b:Pi)(H:za):CallOk qA 18 [.agg (pic a),.agg (pic b)] H (.bool (zc3 a b)) H:=by
 obtain⟨ty,st,od,tf,rp,al⟩:=a;obtain⟨ty',st',od',tf',rp',al'⟩:=b;refine .body (F0:=[(0,.agg (pic ⟨ty,st,od,tf,rp,al⟩)),(1,.agg (pic ⟨ty',st',od',tf',rp',al'⟩))]) Tryz.func18 rfl Tryz.ntmps18 Tryz.results18 rfl kr rfl ?_;(repeat'(first|refine .seq ?_|refine .skip ?_|refine .block ?_|((first|refine .rg rfl λK hK=> ?_|refine .draw mix kr λK hK=> ?_);simp(maxSteps:=3000000) (disch:=omega) only[go_sem,pic])|((first|refine zg ?_ ?_|refine zB ?_ ?_|refine And.intro ?_ ?_)<;>intro h<;>(try simp only[nqb]at h)<;>simp(maxSteps:=3000000) (disch:=omega) only[go_sem,pic,h])|(refine hK _ _ ?_;clear hK K)|(refine .cond (t:=_) rfl (λh=> ?_) (λh=> ?_)<;>(try(cases h;done))<;>(try simp only[nqb]at h))));all_goals((refine .ret ⟨_,rfl,?_⟩;first|refine .inl ⟨?_,rfl⟩|refine .base (.id' ?_ (.bool _))|refine .base (.id' ?_ (.int _ _)));simp_all[zc3,slot,Nat.beq])
 all_goals grind
def enR(e:En):List PV:=[.int .i64 e.f,.int .i64 e.l,.int .i64 e.ty,.int .i64 e.pa,.int .i64 e.fu,.int .i64 e.sh]
def wtl(j:Nat)(w:Wk):List PV:=[.int .i64 w.old,.int .i64 w.new,.bool w.wt,.int .i64 w.op,.int .i64 w.no,.int .i64 w.sh,.msl j (w.out.length * 6) 0 w.out.length 6 true,.bool w.sk]
def wkc(j:Nat)(L:List It)(fl:Bool)(w:Wk):List PV:=.slice (itL L) L.length fl:: .bool w.hd::(sqc w.sq++wtl j w)
def wkB(j:Nat)(L:List It)(fl:Bool)(w:Wk):Blk:=⟨159,0,wkc j L fl w⟩
def woB(o:List En):Blk:=⟨84,o.length * 6,o.flatMap enR⟩
section
variable {j:Nat} {L:List It} {fl:Bool}
structure WkG(j:Nat)(L:List It)(fl:Bool)(w:Wk):Prop where
 ln:(wkc j L fl w).length=145
 lL:(wkc j L fl w)[0]? =some (.slice (itL L) L.length fl)
 hd:(wkc j L fl w)[1]? =some (.bool w.hd)
 sq:List.take 135 (List.drop 2 (wkc j L fl w))=sqc w.sq
 old:(wkc j L fl w)[137]? =some (.int .i64 w.old)
 new:(wkc j L fl w)[138]? =some (.int .i64 w.new)
 wt:(wkc j L fl w)[139]? =some (.bool w.wt)
 op:(wkc j L fl w)[140]? =some (.int .i64 w.op)
 no:(wkc j L fl w)[141]? =some (.int .i64 w.no)
 sh:(wkc j L fl w)[142]? =some (.int .i64 w.sh)
 out:(wkc j L fl w)[143]? =some (.msl j (w.out.length * 6) 0 w.out.length 6 true)
 sk:(wkc j L fl w)[144]? =some (.bool w.sk)
structure WkS(j:Nat)(L:List It)(fl:Bool)(w:Wk):Prop where
 hd:∀ v,(wkc j L fl w).set 1 (.bool v)=wkc j L fl { w with hd:=v }
 old:∀ v,(wkc j L fl w).set 137 (.int .i64 v)=wkc j L fl { w with old:=v }
 new:∀ v,(wkc j L fl w).set 138 (.int .i64 v)=wkc j L fl { w with new:=v }
 wt:∀ v,(wkc j L fl w).set 139 (.bool v)=wkc j L fl { w with wt:=v }
 op:∀ v,(wkc j L fl w).set 140 (.int .i64 v)=wkc j L fl { w with op:=v }
 no:∀ v,(wkc j L fl w).set 141 (.int .i64 v)=wkc j L fl { w with no:=v }
 sh:∀ v,(wkc j L fl w).set 142 (.int .i64 v)=wkc j L fl { w with sh:=v }
 sk:∀ v,(wkc j L fl w).set 144 (.bool v)=wkc j L fl { w with sk:=v }
end
structure WkH(H:za)(i j:Nat)(L:List It)(fl:Bool)(w:Wk):Prop where
 gi:H[i]? =some (wkB j L fl w)
 gj:H[j]? =some (woB w.out)
 ne:i≠j
structure WkOk(w:Wk)(m:Nat):Prop where
 sq:SqOk w.sq
 n:w.out.length<=m
 sh:0<=w.sh/\w.sh+(if w.wt then 1 else 0)<=w.out.length
 no:0<=w.no/\w.no<=2
 new: -1<=w.new/\w.new<w.out.length
 wt:w.wt=true->0<=w.new
def wR(H:za)(i j:Nat)(L:List It)(fl:Bool)(w:Wk):za:=tw H i j (wkB j L fl w) (woB w.out)
structure WrT(H:za)(i j:Nat)(L:List It)(fl:Bool):Prop where
 gi:∀ w,(wR H i j L fl w)[i]? =some ⟨159,0,wkc j L fl w⟩
 gj:∀ w,(wR H i j L fl w)[j]? =some ⟨84,w.out.length * 6,w.out.flatMap enR⟩
 hd:∀ w v,(wR H i j L fl w).set i ⟨159,0,wkc j L fl { w with hd:=v }⟩=wR H i j L fl { w with hd:=v }
 old:∀ w v,(wR H i j L fl w).set i ⟨159,0,wkc j L fl { w with old:=v }⟩=wR H i j L fl { w with old:=v }
 new:∀ w v,(wR H i j L fl w).set i ⟨159,0,wkc j L fl { w with new:=v }⟩=wR H i j L fl { w with new:=v }
 wt:∀ w v,(wR H i j L fl w).set i ⟨159,0,wkc j L fl { w with wt:=v }⟩=wR H i j L fl { w with wt:=v }
 op:∀ w v,(wR H i j L fl w).set i ⟨159,0,wkc j L fl { w with op:=v }⟩=wR H i j L fl { w with op:=v }
 no:∀ w v,(wR H i j L fl w).set i ⟨159,0,wkc j L fl { w with no:=v }⟩=wR H i j L fl { w with no:=v }
 sh:∀ w v,(wR H i j L fl w).set i ⟨159,0,wkc j L fl { w with sh:=v }⟩=wR H i j L fl { w with sh:=v }
 sk:∀ w v,(wR H i j L fl w).set i ⟨159,0,wkc j L fl { w with sk:=v }⟩=wR H i j L fl { w with sk:=v }
end Sc
namespace Sc
open Pm Ty Go.RowKit
theorem WkOk.mono{w:Wk}{m n:Nat}(h:WkOk w m)(hm:m<=n):WkOk w n:=⟨h.sq,by have:=h.n;omega,h.sh,h.no,h.new,h.wt⟩
theorem zxX(H:za):CallOk qA 8 [] H (.bool true) H:=CallOk.evalT 1000000 kr
end Sc
end Go.Proofs.YtdajpjenhcobkaaGreatDoor
