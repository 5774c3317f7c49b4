/-
  Parts of the proof, put together in one text. No condition.
-/
import Derived.Test.YtpjlfoficnpfoaaGreatDoorS15
open Bool renaming and_eq_true → qB, eq_iff_iff → qE
open Int renaming natCast_mul → qL, ofNat_inj → qV
open List renaming replicate → qA, take → qC, drop → qD, take_of_length_le → qF, length_replicate → qG, getD_eq_getElem?_getD → qH, not_mem_nil → qI, mem_cons → qJ, drop_of_length_le → qK, append_assoc → qM, mem_append → qO, replicate_append_replicate → qQ, all_eq_true → qR, take_append_of_le_length → qS, mem_range → qT, getElem?_eq_some_iff → qU, getElem?_eq_none → qW, take_replicate → qY, drop_replicate → qZ
open Nat renaming beq → qN, sub_zero → qP, mul_mul_mul_comm → qX
namespace Go.Proofs.YtpjlfoficnpfoaaGreatDoor.Sc
set_option linter.all false
open Pm Ty Go.RowKit
theorem zuU(m:Mb):qC 6 (qD 18 (mbc m))=fs (cdl m):=rfl
theorem zuT(m:Mb):(mbc m)[4]? =some (.bool m.fd):=rfl
theorem zuS(m:Mb)(n:Nat):qC 64 (qD (24+n * 64) (mbc m))=is (lvl m.lv n):=by rw[show 24+n * 64=n * 64+24 from om];show qC 64 (qD (n * 64) (is m.lv))=_;rw[ze9,zd3];rfl
theorem zcs(m:Mb)(hl:m.lv.length=384):(mbc m).length=408:=by simp[mbc,is,hl]
theorem zuY(lv:List Int)(n:Nat)(hl:lv.length=384)(hn:n<6):(lvl lv n).length=64:=by simp[lvl,hl];omega
def lrm(lv:List Int):Prop:=∀ i,-4095≤zg lv i∧zg lv i≤4095
theorem zxJ{lv:List Int}(h:lrm lv)(n:Nat):lrg (lvl lv n):=fun i=>by
 unfold lvl zg;rw[qH,List.getElem?_take];split
 ·rw[List.getElem?_drop];have:=h (n * 64+i);unfold zg at this;rw[qH]at this;exact this
 ·simp
theorem zsg{lv:List Int}(hl:lv.length=384)(h:lvr lv=true):lrm lv:=fun i=>by
 by_cases hi:i<384
 ·have:=qR.1 h i (qT.2 hi);simp[win]at this;omega
 ·unfold zg;rw[qH,qW om];simp
theorem zu7(l:List Int)(al:Bool):(frs l al).length=64:=zgx _ _ _
theorem zx1{l:List Int}(h:lrg l)(al:Bool):lrg (frs l al):=fun i=>zhE (B:=4095) om (zok om (fun i=>by have:=h i;omega) 64) i
theorem zoC(l:List Int)(m:List UInt8)(q:Int):(dqz l m q).length=64:=zbL _ _
theorem zu2(y:List Int):(inv y).length=64:=zbL _ _
def adk(d b:List Int)(k:Nat):List Int:=rgI 64 fun j=>if j<k then zg d j+zg b j else zg b j
theorem zvM(d b:List Int)(k:Nat):(adk d b k).length=64:=zbL _ _
theorem zAc{d b:List Int}(h:b.length=64):adk d b 0=b:=by have:adk d b 0=rgI 64 (zg b):=zd1 fun j _=>if_neg om;rw[this,←h,zxi]
theorem zyz(d b:List Int){k:Nat}(h:k<64):zg (adk d b k) k=zg b k:=by rw[adk,zb3 _ h,if_neg om]
theorem zvL(d b:List Int)(k:Nat):(adk d b k).set k (zg b k+zg d k)=adk d b (k+1):=by
 rw[adk,zjl];refine zd1 fun j hj=> ?_;by_cases h1:j=k
 ·rw[if_pos h1,if_pos om,h1,Int.add_comm]
 ·rw[if_neg h1];by_cases h2:j<k
  ·rw[if_pos h2,if_pos om]
  ·rw[if_neg h2,if_neg om]
theorem zvN(d b:List Int):adk d b 64=rgI 64 fun k=>zg d k+zg b k:=zd1 fun j hj=>if_pos hj
theorem zyr(p:List UInt8)(n:Nat)(fd:Bool)(k:Nat):0≤zg (blk p n fd) k∧zg (blk p n fd) k≤255:=by
 by_cases h:k<64
 ·rw[blk,zb3 _ h];exact zaf _ _
 ·have hl:(blk p n fd).length=64:=zbL _ _;unfold zg;rw[qH,qW om];simp
set_option maxHeartbeats 6400000 in
set_option maxRecDepth 100000 in
theorem ztu(f:Fm)(hf:F16 f)(m:Mb)(i:Nat)(mat:List UInt8)(q:Int)(al:Bool)(H:za)(hi:H[i]? =some (mB m))(hml:m.lv.length=384)(hlr:lrm m.lv)(hm:mat.length=64)(hmx:zcr mat=true)(hq:qnB q=true):
  CallOk Tryz.prog 129 [.agg (fmc f),.ptr i 0 0,.agg (bs mat),.int .i64 q,.bool al] H (.tup [.agg (fmc (addN m al mat q f 6)),.int .i64 0]) H:=by
 have hil:=(qU.1 hi).1;have hx:=fun K=>zae (K:=K) hi;have e1:=zuU m;have e2:=zuT m;have e3:=fun n=>zuS m n;have e4:=zcs m hml;have hcl:(cdl m).length=6:=rfl;have hcl2:(fs (cdl m)).length=6:=rfl;have hg:=fun n (hn:n<6)=>zj0 (cdl m) n hn;have hcm:(bs mat).all PV.cell=true:=by simp[bs,PV.cell]
 have tkm:qC 64 (bs mat)=bs mat:=qF (by rw[zd];omega);have lm:(bs mat).length=64:=by rw[zd,hm]
 refine CallOk.go Tryz.func129 Tryz.ntmps129 Tryz.results129 ?_;have f5:(fmc f).all PV.cell=true:=rfl;refine PW.g (nq2 hcm f5) ?_;refine PW.f (fun K k=>by simp(disch:=omega) only[go_sem,↓reduceIte,reduceCtorEq,hi,hx,mB,e1,e4];exact k) ?_;refine PW.l ?_;suffices h1:∀ n:Nat,n≤6→PL Tryz.prog _ _ [(1,.ptr i 0 0),(3,.int .i64 q),(4,.bool al),(5,.ptr H.length 0 0),(7,.ptr (H.length+1) 0 0),(10,.ptr (H.length+2) 0 0),(22,.agg (fs (cdl m))),(23,.int .i64 (n:Int))] (H++[⟨33,0,fmc (addN m al mat q f n)⟩,⟨27,0,bs mat⟩,⟨33,0,[.int .i64 0,.int .i64 0,.slice [] 0 true,.slice [] 0 true,.slice [] 0 true]⟩]) _ by exact PL.at [1,3,4,5,7,10,22,23] (h1 0 om) rfl rfl
 refine cnt 6 (fun n hn ih=> ?_) ?_
 ·have ct:=zcA hn;refine PL.round ?_;refine PW.e ?_;refine PW.t ?_;refine PW.skip ?_;refine PW.b ?_;refine PW.g (nq2 hg hcl2) ?_;refine PW.e ?_;refine PW.c (fun h=> ?_) (fun h=> ?_)
  ·have hc:zat (cdl m) n=false:=by simpa using h
   rw[addN,hc,if_neg sp]at ih;refine PW.exit ?_;refine PW.e ?_;exact PL.at [1,3,4,5,7,10,22,23] ih rfl rfl
  have hc:zat (cdl m) n=true:=by simpa using h
  rw[addN,hc,if_pos rfl]at ih;have g16:=hf.addN m al mat q n om;obtain⟨g,hgg⟩:∃ g,addN m al mat q f n=g:=⟨_,rfl⟩;rw[hgg]at g16 ih ⊢;have g7:(fmc g).length=5:=rfl;have g8:qC 5 (fmc g)=fmc g:=rfl;have ll:=zuY m.lv n hml hn;have lr:=zxJ hlr n;have c1:=fun K=>zlF (lvl m.lv n) al ll K;have c2:=fun K=>zm7 (frs (lvl m.lv n) al) mat q (zu7 _ _) (zx1 lr al) hm hmx hq K;have hr:rsd m.lv al mat q n=inv (dqz (frs (lvl m.lv n) al) mat q):=rfl;have c3:=fun K=>zmU (dqz (frs (lvl m.lv n) al) mat q) (zoC _ _ _) K;rw[←hr]at c3;have il:(rsd m.lv al mat q n).length=64:=zu2 _;have ib:=fun k=>zxS (dqz (frs (lvl m.lv n) al) mat q) k;rw[←hr]at ib;have dl:=zoC (frs (lvl m.lv n) al) mat q;have dcel:=zX (dqz (frs (lvl m.lv n) al) mat q);generalize dqz (frs (lvl m.lv n) al) mat q=D at c2 c3 dl dcel;have tkD:qC 64 (is D)=is D:=qF (by rw[zr];omega);generalize frs (lvl m.lv n) al=S at c1 c2;generalize rsd m.lv al mat q n=I at c3 il ib ih;clear hr;have c4:=fun K=>zti g g16 n hn m.fd K;have bb:=fun k=>zyr (cmp g n) n m.fd k;have bl:(blk (cmp g n) n m.fd).length=64:=zbL _ _;have bcel:=zX (blk (cmp g n) n m.fd);refine PW.skip ?_;refine PW.view (Vs.place 146) ?_;(repeat refine PW.seq ?_);refine PW.drawi [H.length+3] [(14,[0])] [(14,0)] [37,40] mix kr (by simp<;>omega) fun K hK=> ?_;simp(disch:=omega) only[go_sem,↓reduceIte,reduceCtorEq,zaU,hi,hx,mB,e3,e4];refine VCj.read (fun _ _=>c1 _) rfl ?_;simp(disch:=omega) only[go_sem,↓reduceIte,reduceCtorEq,zaU,hi,hx,mB,e3,e4,lm,tkm];refine VCj.read (fun _ _=>c2 _) rfl ?_;simp(disch:=omega) only[go_sem,↓reduceIte,reduceCtorEq,zr,dl,dcel];refine hK _ _ ?_;clear hK K;refine PW.e ?_;refine PW.us ?_;refine PW.view (Vs.place 146) ?_;(repeat refine PW.seq ?_);refine PW.drawi [H.length+4] [(16,[0])] [(16,0)] [54] mix kr (by simp<;>omega) fun K hK=> ?_;simp(disch:=omega) only[go_sem,↓reduceIte,reduceCtorEq,zaU,hi,hx,mB,e2,e4,g7,g8];refine VCj.read (fun _ _=>c4 _) rfl ?_;simp(disch:=omega) only[go_sem,↓reduceIte,reduceCtorEq,zr,bl,bcel];refine hK _ _ ?_;clear hK K;refine PW.e ?_;refine PW.us ?_;refine PW.f (fun K k=>by simp(disch:=omega) only[go_sem,↓reduceIte,reduceCtorEq,zr,dl,tkD];refine VCx.call (c3 _) rfl ?_;simp(disch:=omega) only[go_sem,↓reduceIte,reduceCtorEq,zr,dl,tkD];exact k) ?_;refine PW.l ?_;suffices h2:∀ k:Nat,k≤64→PL Tryz.prog _ _ [(1,.ptr i 0 0),(3,.int .i64 q),(4,.bool al),(5,.ptr H.length 0 0),(7,.ptr (H.length+1) 0 0),(10,.ptr (H.length+2) 0 0),(12,.int .i64 (n:Int)),(16,.ptr (H.length+4) 1 0),(22,.agg (fs (cdl m))),(23,.int .i64 (n:Int)),(62,.agg (is I)),(63,.int .i64 (k:Int))] (H++[⟨33,0,fmc g⟩,⟨27,0,bs mat⟩,⟨33,0,[.int .i64 0,.int .i64 0,.slice [] 0 true,.slice [] 0 true,.slice [] 0 true]⟩,⟨146,1,is D⟩,⟨146,1,is (adk I (blk (cmp g n) n m.fd) k)⟩]) _ by exact PL.at [1,3,4,5,7,10,12,16,22,23,62,63] (h2 0 om) rfl (by rw[zAc bl])
  refine cnt 64 (fun k hk ih2=> ?_) ?_
  ·refine PL.round ?_;refine PW.e ?_;refine PW.t ?_;have b1:=bb k;have b2:=ib k;have a1:=zyz I (blk (cmp g n) n m.fd) hk;have a2:=zvL I (blk (cmp g n) n m.fd) k;have a3:=zvM I (blk (cmp g n) n m.fd) k;have a4:∀ v,((is (adk I (blk (cmp g n) n m.fd) k)).set k v).length=64:=fun v=>by simp[zr,a3]
   refine PW.skip ?_;refine PW.b ?_;refine PW.f (fun K k=>by simp(disch:=omega) only[go_sem,↓reduceIte,reduceCtorEq,zbJ,zr,il];exact k) ?_;refine PW.f (fun K k=>by simp(disch:=omega) only[go_sem,↓reduceIte,reduceCtorEq,zbJ,zr,a3,a1,zb5,a2,a4];exact k) ?_;refine PW.e ?_;exact PL.at [1,3,4,5,7,10,12,16,22,23,62,63] ih2 rfl rfl
  refine PL.round ?_;refine PW.e ?_;refine PW.u ?_;refine PW.exit ?_;rw[zvN];have xl:(rgI 64 fun k=>zg I k+zg (blk (cmp g n) n m.fd) k).length=64:=zbL _ _;have c5:=fun K=>zkU g g16 n hn m.fd (rgI 64 fun k=>zg I k+zg (blk (cmp g n) n m.fd) k) xl K;have e5:zh6 g n (zeR (cmp g n) n m.fd (rgI 64 fun k=>zg I k+zg (blk (cmp g n) n m.fd) k))=addB g n m.fd I:=rfl;rw[e5]at c5;generalize (rgI 64 fun k=>zg I k+zg (blk (cmp g n) n m.fd) k)=X at xl c5;have xt:qC 64 (is X)=is X:=qF (by rw[zr];omega);generalize addB g n m.fd I=g' at c5 ih;have g5:(fmc g').all PV.cell=true:=rfl;have g6:(fmc g').length=5:=rfl;have g9:qD 5 (fmc g)=[]:=rfl;(repeat refine PW.seq ?_);refine PW.drawi [H.length] [(5,[0])] [] [82] mix kr (by simp<;>omega) fun K hK=> ?_;simp(disch:=omega) only[go_sem,↓reduceIte,reduceCtorEq,zaU,hi,hx,mB,e2,e4,zr,xl,xt,g7,g8];refine VCj.read (fun _ _=>c5 _) rfl ?_;refine sqx (nq2 g5 (nq2 g6 (nq2 g7 (nq2 g8 g9)))) ?_;refine hK _ _ ?_;clear hK K;refine PW.e ?_;refine PW.us ?_;refine PW.e ?_;refine PL.view (Vs.trim (F1:=[(1,.ptr i 0 0),(3,.int .i64 q),(4,.bool al),(5,.ptr H.length 0 0),(7,.ptr (H.length+1) 0 0),(10,.ptr (H.length+2) 0 0),(22,.agg (fs (cdl m))),(23,.int .i64 ((n+1:Nat):Int))]) (H1:=H++[⟨33,0,fmc g'⟩,⟨27,0,bs mat⟩,⟨33,0,[.int .i64 0,.int .i64 0,.slice [] 0 true,.slice [] 0 true,.slice [] 0 true]⟩]) (zey ?_) sp (qM _ [_,_,_] [_,_]).symm ?_) ih
  ·intro b hb z hz;simp only[qJ,qI,or_false]at hb;rcases hb with rfl|rfl|rfl
   ·exact zbo _ _ _ _ _ _ _ _ _ _ _ _ z hz
   ·exact zn _ _ z hz
   ·exact zbo _ 0 0 [] [] [] _ _ _ _ _ _ z hz
  ·rw[hl3];exact⟨.id (.ptr om),.id (.int _ _),.id (.bool _),.id (.ptr om),.id (.ptr om),.id (.ptr om),.id (zw (ziN _ _)),.id (.int _ _),trivial⟩
 refine PL.round ?_;refine PW.e ?_;refine PW.u ?_;refine PW.exit ?_;obtain⟨g,hgg⟩:∃ g,addN m al mat q f 6=g:=⟨_,rfl⟩;rw[hgg];have g5:(fmc g).all PV.cell=true:=rfl;have g7:(fmc g).length=5:=rfl;have g8:qC 5 (fmc g)=fmc g:=rfl;have g9:qD 5 [PV.int .i64 0,PV.int .i64 0,PV.slice [] 0 true,PV.slice [] 0 true,PV.slice [] 0 true]=[]:=rfl;refine PW.g (nq2 g5 (nq2 g7 (nq2 g8 g9))) ?_;refine PW.w (.tup [.agg (fmc g),.int .i64 0]) (nq2 g7 g8) ?_;exact Fin.base (.id (zS _ _ _ _ _ _ _ _ _ _))
theorem rows_in{W R X Y w h L:Nat}(hp:L=W * R)(hx:X+w≤W)(hy:Y+h≤R):∀ k,k<h→Y * W+X+k * W+w≤L:=fun k hk=>by have h1:(Y+k+1) * W≤R * W:=Nat.mul_le_mul_right _ om;rw[Nat.add_mul,Nat.add_mul,Nat.one_mul]at h1;rw[hp,Nat.mul_comm W R];omega
theorem zjX{f:Fm}(h:fvd f=true):∃ A B:Nat,1≤A∧A≤4∧1≤B∧B≤4∧f.w=((16 * A:Nat):Int)∧f.h=((16 * B:Nat):Int)∧f.y.length=16 * A * (16 * B)∧f.u.length=8 * A * (8 * B)∧f.v.length=8 * A * (8 * B):=by
 obtain⟨w,ht,y,u,v⟩:=f;simp only[fvd,fmd,qB,decide_eq_true_eq]at h;obtain⟨⟨hs,hy,hu,hv⟩,hw,hh⟩:=h;obtain⟨g1,g2,g3,g4,g5,g6⟩:=zde hs;obtain⟨A,hA⟩:∃ A:Nat,(w / 16).toNat=A:=⟨_,rfl⟩;obtain⟨B,hB⟩:∃ B:Nat,(ht / 16).toNat=B:=⟨_,rfl⟩;have e1:w=((16 * A:Nat):Int):=om;have e2:ht=((16 * B:Nat):Int):=om;have e3:w / 2=((8 * A:Nat):Int):=om;have e4:ht / 2=((8 * B:Nat):Int):=om;rw[e3,e4]at hu hv;rw[e1,e2]at hy;refine⟨A,B,om,om,om,om,e1,e2,?_,?_,?_⟩
 ·exact qV.1 (hy.trans (qL _ _).symm)
 ·exact qV.1 (hu.trans (qL _ _).symm)
 ·exact qV.1 (hv.trans (qL _ _).symm)
theorem F16.fmd{f:Fm}(h:F16 f):fmd f=true:=by have:=h.fvd;unfold Sc.fvd at this;rw[qB]at this;exact this.1
theorem znM{c:Cx}{si sq:List UInt8}{al:Bool}{q:Int}{m:Mb}{pa fu fi:Fm}{mx my:Int}(h:(zg7 c si sq al q m pa fu fi mx my).2=0):F16 (zg7 c si sq al q m pa fu fi mx my).1:=by
 unfold zg7 at h ⊢;split at h
 ·rename_i hok;rw[if_pos hok];by_cases h1:m.k=1
  ·rw[if_pos h1];exact F16.gry.addN _ _ _ _ 6 om
  ·rw[if_neg h1]at h ⊢;generalize (if m.k=0 then stl c else m)=m' at h ⊢;split at h
   ·rename_i h2;exact absurd h h2
   ·rename_i h2;rw[if_neg h2];exact(zrm (Decidable.not_not.1 h2)).addN _ _ _ _ 6 om
 ·simp at h
theorem zon{V K P:Nat}{y u v:List UInt8}(h:Fok V K y u v)(hP:P≤1):Hok V K (fld V K P y u v):=by obtain⟨rv,rk,ly,lu,lv⟩:=h;exact⟨rfl,rfl,rv,rk,zba y _ _ _ _ (zaP _ _ _ hP _ ly),zba u _ _ _ _ (zaP _ _ _ hP _ lu),zba v _ _ _ _ (zaP _ _ _ hP _ lv)⟩
theorem zk2(f:Fm)(x y vx vy:Int):Hok 8 4 (prdF f x y 8 vx vy):=⟨rfl,rfl,om,om,zau _ _ _ _ _ _ _ _ _,zau _ _ _ _ _ _ _ _ _,zau _ _ _ _ _ _ _ _ _⟩
theorem zxm(f:Fm)(x y vx vy:Int):fmc (prdF f x y 8 vx vy)=[.int .i64 16,.int .i64 8,.slice (bs (prdF f x y 8 vx vy).y) 128 false,.slice (bs (prdF f x y 8 vx vy).u) 32 false,.slice (bs (prdF f x y 8 vx vy).v) 32 false]:=zrl f x y 8 vx vy
theorem F16.c{f:Fm}(h:F16 f):fmc f=[.int .i64 16,.int .i64 16,.slice (bs f.y) 256 false,.slice (bs f.u) 64 false,.slice (bs f.v) 64 false]:=by unfold fmc;rw[h.w,h.h,h.ly,h.lu,h.lv]
theorem zk1{f:Fm}{mx my va vb s:Int}(hm:zdu f mx my=true)(h32:f.h%32=0)(hs:s=0∨s=1)(hv:vrg va vb=true):zia (fieldOf f s) (16 * mx) (8 * my) 8 va vb=(prdF (fieldOf f s) (16 * mx) (8 * my) 8 va vb,0):=by
 simp only[zdu,qB,decide_eq_true_eq]at hm;obtain⟨hf,m1,m2,m3,m4⟩:=hm;obtain⟨w,ht,y,u,v⟩:=f;simp only at h32 m2 m4;obtain⟨V,K,rfl,rfl,hok⟩:=zd6 hf h32;obtain⟨P,hP,rfl⟩:∃ P:Nat,P≤1∧s=(P:Int):=by
  rcases hs with e|e
  ·exact⟨0,om,om⟩
  ·exact⟨1,om,om⟩
 have e1:=za2 V K P y u v;unfold fr4 at e1;rw[e1];have h1:=(zon hok hP).fmd;have h2:zgi (fld V K P y u v) (16 * mx) (8 * my) ((8:Nat):Int)=true:=by have w1:(fld V K P y u v).w=((2 * V:Nat):Int):=rfl;have w2:(fld V K P y u v).h=((2 * K:Nat):Int):=rfl;unfold zgi;rw[w1,w2];simp only[qB,decide_eq_true_eq];omega
 unfold zia;rw[h1,h2,if_pos (by rfl),hv,if_pos rfl]
theorem zix(n:Int)(H:za):CallOk Tryz.prog 216 [.int .i64 n] H (.int .i64 (16 * min (max n (-1)) 128)) H:=by refine CallOk.go Tryz.func216 Tryz.ntmps216 Tryz.results216 ?_;refine PW.e ?_;have cl:(if 128<(if n< -1 then -1 else n)then 128 else(if n< -1 then -1 else n))=min (max n (-1)) 128:=om;refine PW.g cl ?_;(refine PW.ret ⟨_,rfl,?_⟩;first|refine .inl ⟨?_,rfl⟩|refine Fin.base (.id' ?_ (.bool _))|refine Fin.base (.id' ?_ (.int _ _)));rfl
theorem zz8(b:Bool):zew Tryz.prog 149 [(0,.int .i64 2),(1,.agg [.bool true,.bool b])]=some (.agg (mbc ⟨2,true,b,false,false,0,0,0,0,0,0,0,0,0,0,0,0,0,false,false,false,false,false,false,zl384⟩)):=by cases b<;>kernel_rfl
attribute [go_sem high] zz8
theorem zvS:ze Tryz.prog 149=some zmv:=kr
theorem zc5:zl384.length=384:=qG
theorem zpV:zmv.length=408:=zcs zMb zc5
theorem zcU(m:Mb):(mbc m).all PV.cell=true:=by have hall:=zX m.lv;simp[mbc,PV.cell,hall]
theorem zoX:zmv.all PV.cell=true:=zcU zMb
theorem zjM(k:Nat)(m:Mb):∀ x∈mbc m,Scoped k x:=fun x hx=>by simp only[mbc,qJ]at hx;rcases hx with rfl|rfl|rfl|rfl|rfl|rfl|rfl|rfl|rfl|rfl|rfl|rfl|rfl|rfl|rfl|rfl|rfl|rfl|rfl|rfl|rfl|rfl|rfl|rfl|hx;all_goals first|exact .int _ _|exact .bool _|exact zaz _ _ _ hx
set_option maxHeartbeats 1600000 in
set_option maxRecDepth 100000 in
theorem zqx(c:Cx)(H:za):CallOk Tryz.prog 130 [.agg (cxc c)] H (.agg (mbc (stl c))) H:=by
 have fo:=fun L=>zm2 c L;have po:=fun L=>zmI c L;obtain⟨t,s,ii,nn⟩:=c;simp only[cxc]at fo po ⊢;refine CallOk.body (F0:=[(0,.agg [.int .i64 t,.int .i64 s,.bool ii,.bool nn])]) Tryz.func130 rfl Tryz.ntmps130 Tryz.results130 rfl kr rfl ?_;have zl:=zpV;have zc:=zoX;have ml:=fun b=>zcs ⟨2,true,b,false,false,0,0,0,0,0,0,0,0,0,0,0,0,0,false,false,false,false,false,false,zl384⟩ zc5;have mc:=fun b=>zcU ⟨2,true,b,false,false,0,0,0,0,0,0,0,0,0,0,0,0,0,false,false,false,false,false,false,zl384⟩;have dl1:(qD 1 zmv).length=407:=by rw[List.length_drop,zl]
 have em:∀ b,PV.int .i64 2::PV.bool true::PV.bool b::qD (1+1) (qD 1 zmv)=mbc ⟨2,true,b,false,false,0,0,0,0,0,0,0,0,0,0,0,0,0,false,false,false,false,false,false,zl384⟩:=fun b=>rfl;have dz:qD 408 zmv=[]:=qK om;refine PW.f (fun K k=>by simp(maxSteps:=3000000) (disch:=omega) only[go_sem,↓reduceIte,reduceCtorEq,↓zvS];exact k) ?_;refine PW.f (fun K k=>by simp(maxSteps:=3000000) (disch:=omega) only[go_sem,↓reduceIte,reduceCtorEq,↓zvS,zl,ml,mc,dz,dl1,em,Nat.reduceAdd,Nat.reduceLeDiff];exact k) ?_;obtain⟨B,hB⟩:∃ B,(t==3)=B:=⟨_,rfl⟩;rw[hB];have hs:stl ⟨t,s,ii,nn⟩=⟨2,true,B,false,false,0,0,0,0,0,0,0,0,pcx ⟨t,s,ii,nn⟩,0,if B=true then pcx ⟨t,s,ii,nn⟩else 0,0,0,false,false,false,false,false,false,zl384⟩:=by
  unfold stl;by_cases h3:t=3
  ·have:B=true:=by rw[←hB,h3];rfl
   subst this;simp[h3]
  ·have:B=false:=by rw[←hB];simp[h3]
   subst this;simp[h3]
 rw[hs];clear hs hB;refine PW.k fo ?_;refine PW.c (fun h=> ?_) (fun h=> ?_);rotate_left
 ·have hf:pcx ⟨t,s,ii,nn⟩=0:=by
   have h':fcx ⟨t,s,ii,nn⟩=false:=h;unfold fcx at h';have h3:s=3:=by simpa using h'
   show(if s=2 then(1:Int)else 0)=0;rw[if_neg om]
  rw[hf];simp only[ite_self];refine PW.skip ?_;have tk:=fun b=>(qF (by rw[ml b];exact Nat.le_refl _):qC 408 (mbc ⟨2,true,b,false,false,0,0,0,0,0,0,0,0,0,0,0,0,0,false,false,false,false,false,false,zl384⟩)=_);refine PW.g (nq2 ml (nq2 mc (nq2 zl (nq2 dz tk)))) ?_;refine PW.w (.agg (mbc ⟨2,true,B,false,false,0,0,0,0,0,0,0,0,0,0,0,0,0,false,false,false,false,false,false,zl384⟩)) (nq2 ml tk) ?_;exact Fin.base (.id (zw (zjM _ _)))
 generalize pcx ⟨t,s,ii,nn⟩=p at *;have ml2:=fun b p q=>zcs ⟨2,true,b,false,false,0,0,0,0,0,0,0,0,p,0,q,0,0,false,false,false,false,false,false,zl384⟩ zc5;have mc2:=fun b p q=>zcU ⟨2,true,b,false,false,0,0,0,0,0,0,0,0,p,0,q,0,0,false,false,false,false,false,false,zl384⟩;have s1:∀ b p q x,(mbc ⟨2,true,b,false,false,0,0,0,0,0,0,0,0,p,0,q,0,0,false,false,false,false,false,false,zl384⟩).set 13 (.int .i64 x)=mbc ⟨2,true,b,false,false,0,0,0,0,0,0,0,0,x,0,q,0,0,false,false,false,false,false,false,zl384⟩:=fun _ _ _ _=>rfl;have s2:∀ b p q x,(mbc ⟨2,true,b,false,false,0,0,0,0,0,0,0,0,p,0,q,0,0,false,false,false,false,false,false,zl384⟩).set 15 (.int .i64 x)=mbc ⟨2,true,b,false,false,0,0,0,0,0,0,0,0,p,0,x,0,0,false,false,false,false,false,false,zl384⟩:=fun _ _ _ _=>rfl;have tk:=fun b p q=>(qF (by rw[ml2 b p q];exact Nat.le_refl _):qC 408 (mbc ⟨2,true,b,false,false,0,0,0,0,0,0,0,0,p,0,q,0,0,false,false,false,false,false,false,zl384⟩)=_);have t2:∀ b p q,qC 2 (qD 1 (mbc ⟨2,true,b,false,false,0,0,0,0,0,0,0,0,p,0,q,0,0,false,false,false,false,false,false,zl384⟩))=[.bool true,.bool b]:=fun _ _ _=>rfl;refine PW.g (nq2 ml2 t2) ?_;refine PW.l ?_;refine PL.round ?_;refine PW.e ?_;refine PW.t ?_;refine PW.skip ?_;refine PW.b ?_;refine PW.e ?_;refine PW.e ?_;refine PW.t ?_;(repeat refine PW.seq ?_);refine PW.drawi [H.length+2] [(3,[0]),(23,[0]),(24,[0]),(25,[0])] [] [22] mix kr (by simp<;>omega) fun K hK=> ?_;simp(maxSteps:=3000000) (disch:=omega) only[go_sem,↓reduceIte,reduceCtorEq,zaU,ml2];refine VCj.read (fun _ _=>po _) rfl ?_;refine sqx (nq2 ml2 s1) ?_;refine hK _ _ ?_;clear hK K;refine PW.e ?_;refine PL.round ?_;refine PW.e ?_;refine PW.t ?_;refine PW.skip ?_;refine PW.b ?_;refine PW.e ?_;cases B
 ·refine PW.e ?_;refine PW.us ?_;refine PW.e ?_;refine PL.round ?_;refine PW.e ?_;refine PW.u ?_;refine PW.exit ?_;refine PW.g (nq2 ml2 (nq2 mc2 (nq2 zl (nq2 dz tk)))) ?_;refine PW.w (.agg (mbc ⟨2,true,false,false,false,0,0,0,0,0,0,0,0,p,0,0,0,0,false,false,false,false,false,false,zl384⟩)) (nq2 ml2 tk) ?_;exact Fin.base (.id (zw (zjM _ _)))
 ·refine PW.e ?_;refine PW.t ?_;(repeat refine PW.seq ?_);refine PW.drawi [H.length+2] [(3,[0]),(23,[0]),(24,[0]),(25,[0])] [] [22] mix kr (by simp<;>omega) fun K hK=> ?_;simp(maxSteps:=3000000) (disch:=omega) only[go_sem,↓reduceIte,reduceCtorEq,zaU,ml2];refine VCj.read (fun _ _=>po _) rfl ?_;refine sqx (nq2 ml2 s2) ?_;refine hK _ _ ?_;clear hK K;refine PW.e ?_;refine PL.round ?_;refine PW.e ?_;refine PW.u ?_;refine PW.exit ?_;refine PW.g (nq2 ml2 (nq2 mc2 (nq2 zl (nq2 dz tk)))) ?_;refine PW.w (.agg (mbc ⟨2,true,true,false,false,0,0,0,0,0,0,0,0,p,0,p,0,0,false,false,false,false,false,false,zl384⟩)) (nq2 ml2 tk) ?_;exact Fin.base (.id (zw (zjM _ _)))
set_option maxHeartbeats 6400000 in
set_option maxRecDepth 100000 in
theorem zpG(f:Fm)(mx my va vb vc vd sa sb:Int)(hsa:sa=0∨sa=1)(hsb:sb=0∨sb=1)(hv1:vrg va vb=true)(hv2:vrg vc vd=true)(H:za):
  CallOk Tryz.prog 214 [.agg (fmc f),.int .i64 mx,.int .i64 my,.agg [.int .i64 va,.int .i64 vb,.int .i64 vc,.int .i64 vd],.agg [.int .i64 sa,.int .i64 sb]] H (.tup [.agg (fmc (fldS f mx my va vb vc vd sa sb).1),.int .i64 (fldS f mx my va vb vc vd sa sb).2]) H:=by
 have vo:=fun L=>zgN f L;generalize hr:fldS f mx my va vb vc vd sa sb=r;by_cases hc:(zdu f mx my&&decide (f.h%32=0))=true;case neg=>
  have hc':(zdu f mx my&&decide (f.h%32=0))=false:=by simpa using hc
  rw[fldS,if_neg hc]at hr;obtain⟨w,ht,y,u,v⟩:=f;simp only at hc';cases hf:fvd ⟨w,ht,y,u,v⟩
  ·rw[hf]at vo;simp only[fmc]at vo ⊢;refine CallOk.body (F0:=[(0,.agg [.int .i64 w,.int .i64 ht,.slice (bs y) y.length false,.slice (bs u) u.length false,.slice (bs v) v.length false]),(1,.int .i64 mx),(2,.int .i64 my),(3,.agg [.int .i64 va,.int .i64 vb,.int .i64 vc,.int .i64 vd]),(4,.agg [.int .i64 sa,.int .i64 sb])]) Tryz.func214 rfl Tryz.ntmps214 Tryz.results214 rfl kr rfl ?_;refine PW.e ?_;(repeat refine PW.seq ?_);refine PW.rgv (P:=Tryz.prog) [10,11] 49 (.bool true) ?_ ?_ ?_
   ·rfl
   ·simp(maxSteps:=3000000) (disch:=omega) only[go_sem,↓reduceIte,reduceCtorEq];(repeat'(first|((first|refine zh ?_ ?_|refine And.intro ?_ ?_)<;>intro h<;>(try simp only[nqb]at h)<;>simp(maxSteps:=3000000) (disch:=omega) only[go_sem,↓reduceIte,reduceCtorEq,h])|((first|refine VCx.call (vo _) rfl ?_);simp(maxSteps:=3000000) (disch:=omega) only[go_sem,↓reduceIte,reduceCtorEq])));all_goals(simp_all[slot,qN]<;>first|rfl|omega|(rw[qE];simp;done)|(rw[qE];simp;omega))
   refine PW.t ?_;refine PW.e ?_;refine PW.v (.tup [.agg [.int .i64 0,.int .i64 0,.slice [] 0 true,.slice [] 0 true,.slice [] 0 true],.int .i64 1]) ?_;rw[←hr];exact Fin.base (fz0 _ _ _)
  ·have hp:(0≤w∧w≤64)∧0≤ht∧ht≤64:=by unfold fvd fmd at hf;simp only[qB]at hf;have:=zde hf.1.1;omega
   rw[hf]at vo;unfold zdu at hc';rw[hf,Bool.true_and]at hc';simp only[fmc]at vo hc' ⊢;clear hf hc;refine CallOk.body (F0:=[(0,.agg [.int .i64 w,.int .i64 ht,.slice (bs y) y.length false,.slice (bs u) u.length false,.slice (bs v) v.length false]),(1,.int .i64 mx),(2,.int .i64 my),(3,.agg [.int .i64 va,.int .i64 vb,.int .i64 vc,.int .i64 vd]),(4,.agg [.int .i64 sa,.int .i64 sb])]) Tryz.func214 rfl Tryz.ntmps214 Tryz.results214 rfl kr rfl ?_;refine PW.e ?_;(repeat refine PW.seq ?_);refine PW.rgv (P:=Tryz.prog) [10,11] 49 (.bool true) ?_ ?_ ?_
   ·rfl
   ·clear hr hv1 hv2;simp(maxSteps:=3000000) (disch:=omega) only[go_sem,↓reduceIte,reduceCtorEq];(repeat'(first|((first|refine zh ?_ ?_|refine And.intro ?_ ?_)<;>intro h<;>(try simp only[nqb]at h)<;>simp(maxSteps:=3000000) (disch:=omega) only[go_sem,↓reduceIte,reduceCtorEq,zu,zY,h])|((first|refine VCx.call (vo _) rfl ?_);simp(maxSteps:=3000000) (disch:=omega) only[go_sem,↓reduceIte,reduceCtorEq,zu,zY])));all_goals(clear vo;simp_all[slot,qN]<;>grind)
   refine PW.t ?_;refine PW.e ?_;refine PW.v (.tup [.agg [.int .i64 0,.int .i64 0,.slice [] 0 true,.slice [] 0 true,.slice [] 0 true],.int .i64 1]) ?_;rw[←hr];exact Fin.base (fz0 _ _ _)
 rw[fldS,if_pos hc]at hr;have hc2:=hc;rw[qB,decide_eq_true_eq]at hc2;obtain⟨hm,h32⟩:=hc2;have ga:=zk1 hm h32 hsa hv1;have gb:=zk1 hm h32 hsb hv2;simp only[zdu,qB,decide_eq_true_eq]at hm;obtain⟨hf,m1,m2,m3,m4⟩:=hm;have hb:=zjX hf;obtain⟨A0,B0,a1,a2,b1,b2,ew,eh,_⟩:=hb;have hmb:mx≤3∧my≤3:=om;have hp:(0≤f.w∧f.w≤64)∧0≤f.h∧f.h≤64:=om;have pa:=fun L=>zdA (fieldOf f sa) (16 * mx) (8 * my) va vb 8 (.inl rfl) om L;have pb:=fun L=>zdA (fieldOf f sb) (16 * mx) (8 * my) vc vd 8 (.inl rfl) om L;rw[ga]at pa;rw[gb]at pb;have w1:=fun L=>zgL 8 4 _ _ (zk2 (fieldOf f sa) (16 * mx) (8 * my) va vb) (zk2 (fieldOf f sb) (16 * mx) (8 * my) vc vd) L;have wc:=(znk (fieldOf f sa) (fieldOf f sb) (16 * mx) (8 * my) (16 * mx) (8 * my) va vb vc vd).c;simp only[zwG]at w1;have fl:∀ s,(s=0∨s=1)→∀ L,CallOk Tryz.prog 124 [.agg (fmc f),.int .i64 s] L (.tup [.agg (fmc (fieldOf f s)),.int .i64 0]) L:=fun s hs L=>by
  obtain⟨w,ht,y,u,v⟩:=f;obtain⟨V,K,rfl,rfl,hok⟩:=zd6 hf h32;obtain⟨P,hP,rfl⟩:∃ P:Nat,P≤1∧s=(P:Int):=by
   rcases hs with e|e
   ·exact⟨0,om,om⟩
   ·exact⟨1,om,om⟩
  have e1:=za2 V K P y u v;have e2:=zhN V K P y u v L hok hP;unfold fr4 at e1 e2;rw[e1];exact e2
 have fa:=fl sa hsa;have fb:=fl sb hsb;have hr1:fmc r.1=fmc (wovF (prdF (fieldOf f sa) (16 * mx) (8 * my) 8 va vb) (prdF (fieldOf f sb) (16 * mx) (8 * my) 8 vc vd)):=by rw[←hr]
 have hr2:r.2=0:=by rw[←hr]
 rw[hr1,hr2,wc];rw[wc]at w1;simp only[zxm]at pa pb w1;generalize wovF (prdF (fieldOf f sa) (16 * mx) (8 * my) 8 va vb) (prdF (fieldOf f sb) (16 * mx) (8 * my) 8 vc vd)=W at w1 ⊢;generalize prdF (fieldOf f sa) (16 * mx) (8 * my) 8 va vb=PA at pa w1;generalize prdF (fieldOf f sb) (16 * mx) (8 * my) 8 vc vd=PB at pb w1;generalize fieldOf f sa=FA at fa pa;generalize fieldOf f sb=FB at fb pb;rw[hf]at vo;clear hr hr1 hr2 wc ga gb fl hc hf ew eh;obtain⟨w,ht,y,u,v⟩:=f;obtain⟨aw,ah,ay,au,av⟩:=FA;obtain⟨bw,bh,by',bu,bv⟩:=FB;simp only[fmc]at vo fa fb pa pb h32 m2 m4 hp ⊢;refine CallOk.body (F0:=[(0,.agg [.int .i64 w,.int .i64 ht,.slice (bs y) y.length false,.slice (bs u) u.length false,.slice (bs v) v.length false]),(1,.int .i64 mx),(2,.int .i64 my),(3,.agg [.int .i64 va,.int .i64 vb,.int .i64 vc,.int .i64 vd]),(4,.agg [.int .i64 sa,.int .i64 sb])]) Tryz.func214 rfl Tryz.ntmps214 Tryz.results214 rfl kr rfl ?_;refine PW.e ?_;(repeat refine PW.seq ?_);refine PW.rgv (P:=Tryz.prog) [1,2,5,8,9,10,11] 49 (.bool false) ?_ ?_ ?_
 ·rfl
 ·clear fa fb pa pb w1;simp(maxSteps:=3000000) (disch:=omega) only[go_sem,↓reduceIte,reduceCtorEq];(repeat'(first|((first|refine zh ?_ ?_|refine And.intro ?_ ?_)<;>intro h<;>(try simp only[nqb]at h)<;>simp(maxSteps:=3000000) (disch:=omega) only[go_sem,↓reduceIte,reduceCtorEq,zu,zY,h])|((first|refine VCx.call (vo _) rfl ?_);simp(maxSteps:=3000000) (disch:=omega) only[go_sem,↓reduceIte,reduceCtorEq,zu,zY])));all_goals(clear vo;simp_all[slot,qN]<;>grind)
 refine PW.us ?_;refine PW.e ?_;refine PW.l ?_;refine PL.round ?_;refine PW.e ?_;refine PW.t ?_;refine PW.skip ?_;refine PW.b ?_;refine PW.e ?_;(repeat refine PW.seq ?_);refine PW.rgv (P:=Tryz.prog) [1,2,5,8,9,10,51,52] 60 (.bool false) ?_ ?_ ?_
 ·rfl
 ·clear fa fb pa pb w1 vo;simp(maxSteps:=3000000) (disch:=omega) only[go_sem,↓reduceIte,reduceCtorEq];(repeat'((first|refine zh ?_ ?_|refine zk ?_ ?_|refine zU ?_ ?_|refine VOh_cond ?_ ?_|refine zT ?_ ?_|refine And.intro ?_ ?_)<;>intro h<;>(try simp only[nqb]at h)<;>simp(maxSteps:=3000000) (disch:=omega) only[go_sem,↓reduceIte,reduceCtorEq,h]));all_goals(simp_all[slot,qN]<;>first|rfl|omega|(rw[qE];simp;done)|(rw[qE];simp;omega))
 refine PW.us ?_;refine PW.e ?_;refine PL.round ?_;refine PW.e ?_;refine PW.t ?_;refine PW.skip ?_;refine PW.b ?_;refine PW.e ?_;(repeat refine PW.seq ?_);refine PW.rgv (P:=Tryz.prog) [1,2,5,8,9,10,51,52] 60 (.bool false) ?_ ?_ ?_
 ·rfl
 ·clear fa fb pa pb w1 vo;simp(maxSteps:=3000000) (disch:=omega) only[go_sem,↓reduceIte,reduceCtorEq];(repeat'((first|refine zh ?_ ?_|refine zk ?_ ?_|refine zU ?_ ?_|refine VOh_cond ?_ ?_|refine zT ?_ ?_|refine And.intro ?_ ?_)<;>intro h<;>(try simp only[nqb]at h)<;>simp(maxSteps:=3000000) (disch:=omega) only[go_sem,↓reduceIte,reduceCtorEq,h]));all_goals(simp_all[slot,qN]<;>first|rfl|omega|(rw[qE];simp;done)|(rw[qE];simp;omega))
 refine PW.us ?_;refine PW.e ?_;refine PL.round ?_;refine PW.e ?_;refine PW.u ?_;refine PW.exit ?_;refine PW.e ?_;refine PW.e ?_;refine PW.l ?_;refine PL.round ?_;refine PW.e ?_;refine PW.t ?_;refine PW.skip ?_;refine PW.b ?_;refine PW.e ?_;refine PW.k fa ?_;refine PW.e ?_;refine PW.us ?_;(repeat refine PW.seq ?_);refine PW.drawi [H.length+4] [(14,[0]),(91,[0])] [] [88] mix kr (by simp<;>omega) fun K hK=> ?_;simp(maxSteps:=3000000) (disch:=omega) only[go_sem,↓reduceIte,reduceCtorEq,zaU];refine VCj.read (fun _ _=>pa _) rfl ?_;refine sqz ?_;refine hK _ _ ?_;clear hK K;refine PW.e ?_;refine PW.us ?_;refine PW.e ?_;refine PL.round ?_;refine PW.e ?_;refine PW.t ?_;refine PW.skip ?_;refine PW.b ?_;refine PW.e ?_;refine PW.k fb ?_;refine PW.e ?_;refine PW.us ?_;(repeat refine PW.seq ?_);refine PW.drawi [H.length+4] [(14,[0]),(91,[0])] [] [88] mix kr (by simp<;>omega) fun K hK=> ?_;simp(maxSteps:=3000000) (disch:=omega) only[go_sem,↓reduceIte,reduceCtorEq,zaU];refine VCj.read (fun _ _=>pb _) rfl ?_;refine sqz ?_;refine hK _ _ ?_;clear hK K;refine PW.e ?_;refine PW.us ?_;refine PW.e ?_;refine PL.round ?_;refine PW.e ?_;refine PW.u ?_;refine PW.exit ?_;refine PW.k w1 ?_;refine PW.v (.tup [.agg [.int .i64 16,.int .i64 16,.slice (bs W.y) 256 false,.slice (bs W.u) 64 false,.slice (bs W.v) 64 false],.int .i64 0]) ?_;exact Fin.base (.id (zS _ _ _ _ _ _ _ _ _ _))
def v1(m:Mb)(d:Nat):Int:=if d=0 then m.va else m.ve
def v2(m:Mb)(d:Nat):Int:=if d=0 then m.vb else m.vf
def v3(m:Mb)(d:Nat):Int:=if d=0 then m.vc else m.vg
def v4(m:Mb)(d:Nat):Int:=if d=0 then m.vd else m.vh
def s1(m:Mb)(d:Nat):Int:=if d=0 then m.sa else m.sc
def s2(m:Mb)(d:Nat):Int:=if d=0 then m.sb else m.sd
def us(m:Mb)(d:Nat):Bool:=if d=0 then m.ua else m.ub
def zj8(c:Cx)(m:Mb)(pa fu fi:Fm)(d:Nat)(mx my:Int):Fm×Int:=dirP c m.fp (v1 m d) (v2 m d) (v3 m d) (v4 m d) (s1 m d) (s2 m d) pa fu fi (d:Int) mx my
def zna(m:Mb)(d:Nat):Nat:=(if 0<d∧m.ua=true then 1 else 0)+(if 1<d∧m.ub=true then 1 else 0)
def zvj:List Fm→Fm
 | []=>f0
 | [a]=>a
 | a::b::_=>mnF a b
def goP(c:Cx)(m:Mb)(pa fu fi:Fm)(mx my:Int):Nat→List Fm→Fm×Int
 | 0,l=>(zvj l,0)
 | n+1,l=>if us m (1 - n)=true then(if(zj8 c m pa fu fi (1 - n) mx my).2≠0 then(f0,(zj8 c m pa fu fi (1 - n) mx my).2)else goP c m pa fu fi mx my n (l++[(zj8 c m pa fu fi (1 - n) mx my).1]))else goP c m pa fu fi mx my n l
theorem zsX{c:Cx}{fp:Bool}{va vb vc vd sa sb:Int}{pa fu fi:Fm}{d mx my:Int}(h:(dirP c fp va vb vc vd sa sb pa fu fi d mx my).2≠0):(dirP c fp va vb vc vd sa sb pa fu fi d mx my).1=f0:=by
 unfold dirP at h ⊢;by_cases h1:(refS c pa fu fi d sa).2≠0
 ·rw[if_pos h1]
 ·rw[if_neg h1]at h ⊢;generalize (refS c pa fu fi d sa).1=g at h ⊢;cases fp
  ·rw[if_neg sp]at h ⊢;unfold prdS at h ⊢;split at h
   ·rename_i a;rw[if_pos a];split at h
    ·exact absurd rfl h
    ·rename_i b;rw[if_neg b]
   ·rename_i a;rw[if_neg a]
  ·rw[if_pos rfl]at h ⊢;unfold fldS at h ⊢;split at h
   ·exact absurd rfl h
   ·rename_i a;rw[if_neg a]
theorem zu5(c:Cx)(m:Mb)(pa fu fi:Fm)(mx my:Int)(h:m.ua=true∨m.ub=true):goP c m pa fu fi mx my 2 []=prS c m pa fu fi mx my:=by
 have d0:zj8 c m pa fu fi 0 mx my=zij c m pa fu fi mx my:=rfl;have d1:zj8 c m pa fu fi 1 mx my=zgk c m pa fu fi mx my:=rfl;have u0:us m 0=m.ua:=rfl;have u1:us m 1=m.ub:=rfl;have e0:1 - 1=0:=rfl;have e1:1 - 0=1:=rfl;unfold prS;rw[goP,e0,u0,d0];generalize zij c m pa fu fi mx my=r0;cases ha:m.ua
 ·rw[if_neg sp,if_neg sp,goP,e1,u1,d1];have hbad:(zgk c m pa fu fi mx my).2≠0→(zgk c m pa fu fi mx my).1=f0:=zsX;generalize zgk c m pa fu fi mx my=r1 at hbad ⊢;rw[ha]at h;have hb:m.ub=true:=by simpa using h
  rw[hb,if_pos rfl];obtain⟨g,e⟩:=r1;by_cases he:e=0
  ·subst he;simp[goP,zvj]
  ·rw[if_pos (by exact he)];exact Prod.ext (hbad he).symm rfl
 ·rw[if_pos rfl,if_pos rfl];by_cases he:r0.2=0
  ·rw[if_neg (by simp[he]),if_neg (by simp[he]),goP,e1,u1,d1];generalize zgk c m pa fu fi mx my=r1;cases hb:m.ub
   ·rw[if_neg sp,if_neg sp];obtain⟨g,e⟩:=r0;simp only at he;subst he;rfl
   ·rw[if_pos rfl,if_pos rfl];by_cases he1:r1.2=0
    ·rw[if_neg (by simp[he1]),if_neg (by simp[he1])];rfl
    ·rw[if_pos he1,if_pos he1]
  ·rw[if_pos he,if_pos he]
structure PrOk(m:Mb):Prop where
 u:m.ua=true∨m.ub=true
 f:∀ d,us m d=true→m.fp=true→(s1 m d=0∨s1 m d=1)∧(s2 m d=0∨s2 m d=1)∧vrg (v1 m d) (v2 m d)=true∧vrg (v3 m d) (v4 m d)=true
theorem zxl(f:Fm)(mx my vx vy:Int):zia f (16 * min (max mx (-1)) 128) (16 * min (max my (-1)) 128) 16 vx vy=prdS f mx my vx vy:=by
 unfold zia prdS;by_cases hf:fmd f=true
 ·have hb:f.w≤64∧f.h≤64:=by unfold fmd at hf;rw[qB]at hf;have:=zde hf.1;omega
  by_cases hc:0≤mx∧16 * mx+16≤f.w∧0≤my∧16 * my+16≤f.h
  ·have e1:min (max mx (-1)) 128=mx:=om;have e2:min (max my (-1)) 128=my:=om;have h1:zgi f (16 * mx) (16 * my) ((16:Nat):Int)=true:=by simp only[zgi,qB,decide_eq_true_eq];omega
   have h2:(fmd f&&(decide (0≤mx)&&(decide (16 * mx+16≤f.w)&&(decide (0≤my)&&decide (16 * my+16≤f.h)))))=true:=by simp only[hf,Bool.true_and,qB,decide_eq_true_eq];exact hc
   rw[e1,e2,if_pos h2,hf,h1,if_pos (by rfl)]
  ·have h1:zgi f (16 * min (max mx (-1)) 128) (16 * min (max my (-1)) 128) ((16:Nat):Int)=false:=by rw[Bool.eq_false_iff];intro h;simp only[zgi,qB,decide_eq_true_eq]at h;obtain⟨q1,q2,q3,q4,q5,q6⟩:=h;have hx:min (max mx (-1)) 128=mx∨min (max mx (-1)) 128= -1∨min (max mx (-1)) 128=128:=om;have hy:min (max my (-1)) 128=my∨min (max my (-1)) 128= -1∨min (max my (-1)) 128=128:=om;apply hc;generalize min (max mx (-1)) 128=X at *;generalize min (max my (-1)) 128=Y at *;rcases hx with rfl|rfl|rfl<;>rcases hy with rfl|rfl|rfl<;>omega
   have h2:¬(fmd f&&(decide (0≤mx)&&(decide (16 * mx+16≤f.w)&&(decide (0≤my)&&decide (16 * my+16≤f.h)))))=true:=by simp only[qB,decide_eq_true_eq];omega
   rw[h1,Bool.and_false,if_neg sp,if_neg h2]
 ·have hf':fmd f=false:=by simpa using hf
  rw[hf',Bool.false_and,Bool.false_and];rfl
theorem zzU(l:List Fm):(l.flatMap fmc).length=l.length * 5:=zaT fmc 5 l fun x _=>rfl
set_option maxHeartbeats 6400000 in
set_option maxRecDepth 100000 in
theorem zk0(c:Cx)(m:Mb)(i:Nat)(pa fu fi:Fm)(mx my:Int)(H:za)(hi:H[i]? =some (mB m))(hml:m.lv.length=384)(hp:PrOk m):
  CallOk Tryz.prog 131 [.agg (cxc c),.ptr i 0 0,.agg (fmc pa++(fmc fu++fmc fi)),.int .i64 mx,.int .i64 my] H (.tup [.agg (fmc (prS c m pa fu fi mx my).1),.int .i64 (prS c m pa fu fi mx my).2]) H:=by
 have hil:=(qU.1 hi).1;have hx:=fun K=>zae (K:=K) hi;have e4:=zcs m hml;have eu:qC 2 (qD 1 (mbc m))=[.bool m.ua,.bool m.ub]:=rfl;have efp:(mbc m)[3]? =some (.bool m.fp):=rfl;have es:∀ d,d<2→(mbc m)[13+d * 2]? =some (.int .i64 (s1 m d)):=fun d hd=>by have:d=0∨d=1:=om;rcases this with rfl|rfl<;>rfl
 have ess:∀ d,d<2→qC 2 (qD (13+d * 2) (mbc m))=[.int .i64 (s1 m d),.int .i64 (s2 m d)]:=fun d hd=>by have:d=0∨d=1:=om;rcases this with rfl|rfl<;>rfl
 have ev4:∀ d,d<2→qC 4 (qD (5+d * 4) (mbc m))=[.int .i64 (v1 m d),.int .i64 (v2 m d),.int .i64 (v3 m d),.int .i64 (v4 m d)]:=fun d hd=>by have:d=0∨d=1:=om;rcases this with rfl|rfl<;>rfl
 have ev2:∀ d,d<2→qC 2 (qD (5+d * 4) (mbc m))=[.int .i64 (v1 m d),.int .i64 (v2 m d)]:=fun d hd=>by have:d=0∨d=1:=om;rcases this with rfl|rfl<;>rfl
 have cl:(cxc c).length=4:=rfl;have cc:(cxc c).all PV.cell=true:=rfl;have ct4:qC 4 (cxc c)=cxc c:=rfl;have rl:(fmc pa++(fmc fu++fmc fi)).length=15:=rfl;have rc:(fmc pa++(fmc fu++fmc fi)).all PV.cell=true:=rfl;have rt:qC 15 (fmc pa++(fmc fu++fmc fi))=fmc pa++(fmc fu++fmc fi):=rfl;have hgo:=zu5 c m pa fu fi mx my hp.u;generalize prS c m pa fu fi mx my=r at hgo ⊢;refine CallOk.go Tryz.func131 Tryz.ntmps131 Tryz.results131 ?_;refine PW.g (nq2 cc rc) ?_;refine PW.e ?_;refine PW.f (fun K k=>by simp(maxSteps:=3000000) (disch:=omega) only[go_sem,↓reduceIte,reduceCtorEq,hi,hx,mB,eu,e4];exact k) ?_;(repeat refine PW.seq ?_);refine PW.view (Vs.ghost 12 33 5 rfl) ?_;refine PW.l ?_;suffices hloop:∀(n d:Nat) (l:List Fm),d+n=2→(∀ g∈l,F16 g)→l.length=zna m d→goP c m pa fu fi mx my n l=r→PL Tryz.prog _ _ [(1,.ptr i 0 0),(3,.int .i64 mx),(4,.int .i64 my),(5,.ptr H.length 0 0),(7,.ptr (H.length+1) 0 0),(10,.ptr (H.length+2) 0 0),(12,.msl (H.length+3) (l.length * 5) 0 l.length 5 true),(21,.agg [.bool m.ua,.bool m.ub]),(22,.int .i64 (d:Int))] (H++[⟨152,0,cxc c⟩,⟨84,0,fmc pa++(fmc fu++fmc fi)⟩,⟨33,0,[.int .i64 0,.int .i64 0,.slice [] 0 true,.slice [] 0 true,.slice [] 0 true]⟩,⟨33,l.length * 5,l.flatMap fmc⟩]) _ by exact PL.at [1,3,4,5,7,10,12,21,22] (hloop 2 0 [] rfl (fun g hg=>by cases hg) rfl hgo) (by simp[kp,slot,qN]) sp
 intro n;induction n with
 | zero=>
  intro d l hd hl hlen hr;have hd2:d=2:=om;subst hd2;have hr1:r=(zvj l,0):=hr.symm;subst hr1;refine PL.round ?_;refine PW.e ?_;refine PW.u ?_;refine PW.exit ?_;have hn:l.length=1∨l.length=2:=by
   have e2:zna m 2=(if m.ua=true then 1 else 0)+(if m.ub=true then 1 else 0):=by simp[zna]
   rw[hlen,e2];rcases hp.u with e|e<;>rw[e]
   ·cases m.ub<;>simp
   ·cases m.ua<;>simp
  rcases hn with h1|h1
  ·obtain⟨a,rfl⟩:∃ a,l=[a]:=by
    match l,h1 with
    | [a],_=>exact⟨a,rfl⟩
   have ga:=(hl a sp).c;have gt:qC 5 ([a].flatMap fmc)=fmc a:=rfl;have gl:([a].flatMap fmc).length=5:=rfl;have g5:(fmc a).all PV.cell=true:=rfl;have g7:(fmc a).length=5:=rfl;have g8:qC 5 (fmc a)=fmc a:=rfl;have g9:qD 5 [PV.int .i64 0,PV.int .i64 0,PV.slice [] 0 true,PV.slice [] 0 true,PV.slice [] 0 true]=[]:=rfl;refine PW.e ?_;refine PW.t ?_;refine PW.g (nq2 gt (nq2 gl (nq2 g5 (nq2 g7 (nq2 g8 g9))))) ?_;refine PW.w (.tup [.agg (fmc a),.int .i64 0]) (nq2 g7 g8) ?_;exact Fin.base (.id (zS _ _ _ _ _ _ _ _ _ _))
  ·obtain⟨a,b,rfl⟩:∃ a b,l=[a,b]:=by
    match l,h1 with
    | [a,b],_=>exact⟨a,b,rfl⟩
   have av:=fun L=>znf a b (hl a sp) (hl b sp) L;have gt:qC 5 ([a,b].flatMap fmc)=fmc a:=rfl;have gt2:qC 5 (qD 5 ([a,b].flatMap fmc))=fmc b:=rfl;have gl:([a,b].flatMap fmc).length=10:=rfl;obtain⟨g,hg⟩:∃ g,mnF a b=g:=⟨_,rfl⟩;rw[hg]at av;have hfg:zvj [a,b]=g:=hg;rw[hfg];have g5:(fmc g).all PV.cell=true:=rfl;have g7:(fmc g).length=5:=rfl;have g8:qC 5 (fmc g)=fmc g:=rfl;have g9:qD 5 [PV.int .i64 0,PV.int .i64 0,PV.slice [] 0 true,PV.slice [] 0 true,PV.slice [] 0 true]=[]:=rfl;refine PW.e ?_;refine PW.us ?_;(repeat refine PW.seq ?_);refine PW.drawi [H.length+2] [(10,[0])] [] [106] mix kr (by simp<;>omega) fun K hK=> ?_;simp(maxSteps:=3000000) (disch:=omega) only[go_sem,↓reduceIte,reduceCtorEq,zaU,gt,gt2,gl];refine VCj.read (fun _ _=>av _) rfl ?_;refine sqx (nq2 g5 (nq2 g7 (nq2 g8 g9))) ?_;refine hK _ _ ?_;clear hK K;refine PW.w (.tup [.agg (fmc g),.int .i64 0]) (nq2 g7 g8) ?_;exact Fin.base (.id (zS _ _ _ _ _ _ _ _ _ _))
 | succ n ih=>
  intro d l hd hl hlen hr;have hd2:d<2:=om;have hdn:1 - n=d:=om;rw[goP,hdn]at hr;have ct:decide ((d:Int)<2)=true:=decide_eq_true om;have eus:[PV.bool m.ua,PV.bool m.ub][d]? =some (.bool (us m d)):=by have:d=0∨d=1:=om;rcases this with rfl|rfl<;>rfl
  have hcn:zna m (d+1)=zna m d+if us m d=true then 1 else 0:=by have:d=0∨d=1:=om;rcases this with rfl|rfl<;>simp[zna,us]
  refine PL.round ?_;refine PW.g ct ?_;refine PW.t ?_;refine PW.skip ?_;refine PW.b ?_;refine PW.g eus ?_;refine PW.e ?_;refine PW.c (fun h=> ?_) (fun h=> ?_)
  ·have hu:us m d=false:=by simpa using h
   rw[hu,if_neg sp]at hr;rw[hu,if_neg sp]at hcn;refine PW.exit ?_;refine PW.e ?_;exact PL.at [1,3,4,5,7,10,12,21,22] (ih (d+1) l om hl om hr) rfl rfl
  have hu:us m d=true:=by simpa using h
  rw[hu,if_pos rfl]at hr hcn;have hpf:=hp.f d hu;have h1:=es d hd2;have h2:=ess d hd2;have h3:=ev4 d hd2;have h4:=ev2 d hd2;have hD:zj8 c m pa fu fi d mx my=dirP c m.fp (v1 m d) (v2 m d) (v3 m d) (v4 m d) (s1 m d) (s2 m d) pa fu fi (d:Int) mx my:=rfl;have h16:(zj8 c m pa fu fi d mx my).2=0→F16 (zj8 c m pa fu fi d mx my).1:=zj7;unfold dirP at hD;have rf:=fun L=>zjn c pa fu fi (d:Int) (s1 m d) L;generalize zj8 c m pa fu fi d mx my=R at hD hr h16;generalize refS c pa fu fi (d:Int) (s1 m d)=T at rf hD;obtain⟨g,e⟩:=T;simp only at rf hD;refine PW.skip ?_;have g5:(fmc g).all PV.cell=true:=rfl;have g7:(fmc g).length=5:=rfl;have g8:qC 5 (fmc g)=fmc g:=rfl;refine PW.view (Vs.place 33) ?_;(repeat refine PW.seq ?_);refine PW.drawi [H.length+4] [(15,[0])] [(15,0)] [39] mix kr (by simp<;>omega) fun K hK=> ?_;simp(maxSteps:=3000000) (disch:=omega) only[go_sem,↓reduceIte,reduceCtorEq,zaU,hi,hx,mB,e4,h1,cl,ct4,rl,rt];refine VCj.read (fun _ _=>rf _) rfl ?_;refine sqx (nq2 g5 g7) ?_;refine hK _ _ ?_;clear hK K;refine PW.e ?_;refine PW.c (fun h=> ?_) (fun h=> ?_)
  ·have he:e≠0:=by simpa using h
   rw[if_pos he]at hD;subst hD;rw[if_pos (by exact he)]at hr;refine PW.e ?_;refine PW.v (.tup [.agg [.int .i64 0,.int .i64 0,.slice [] 0 true,.slice [] 0 true,.slice [] 0 true],.int .i64 e]) ?_;rw[←hr];exact Fin.base (fz0 _ _ _)
  have he:e=0:=by simpa using h
  rw[if_neg (by simp[he])]at hD;refine PW.skip ?_;refine PW.e ?_;refine PW.f (fun K k=>by simp(maxSteps:=3000000) (disch:=omega) only[go_sem,↓reduceIte,reduceCtorEq,hi,hx,mB,e4,efp];exact k) ?_;suffices hrest:PW Tryz.prog _ _ [(1,.ptr i 0 0),(3,.int .i64 mx),(4,.int .i64 my),(5,.ptr H.length 0 0),(7,.ptr (H.length+1) 0 0),(10,.ptr (H.length+2) 0 0),(12,.msl (H.length+3) (l.length * 5) 0 l.length 5 true),(16,.int .i64 R.2),(17,.ptr (H.length+5) 0 0),(21,.agg [.bool m.ua,.bool m.ub]),(22,.int .i64 (d:Int))] (H++[⟨152,0,cxc c⟩,⟨84,0,fmc pa++(fmc fu++fmc fi)⟩,⟨33,0,[.int .i64 0,.int .i64 0,.slice [] 0 true,.slice [] 0 true,.slice [] 0 true]⟩,⟨33,l.length * 5,l.flatMap fmc⟩,⟨33,1,fmc g⟩,⟨33,0,fmc R.1⟩]) _ by
   refine PW.c (fun h=> ?_) (fun h=> ?_)
   ·have hf:m.fp=true:=h;rw[hf,if_pos rfl]at hD;obtain⟨k1,k2,k3,k4⟩:=hpf hf;have fl:=fun L=>zpG g mx my (v1 m d) (v2 m d) (v3 m d) (v4 m d) (s1 m d) (s2 m d) k1 k2 k3 k4 L;rw[←hD]at fl;have r5:(fmc R.1).all PV.cell=true:=rfl;have r7:(fmc R.1).length=5:=rfl;have r9:qD 5 [PV.int .i64 0,PV.int .i64 0,PV.slice [] 0 true,PV.slice [] 0 true,PV.slice [] 0 true]=[]:=rfl;(repeat refine PW.seq ?_);refine PW.drawi [H.length+5] [(17,[0])] [] [66] mix kr (by simp<;>omega) fun K hK=> ?_;simp(maxSteps:=3000000) (disch:=omega) only[go_sem,↓reduceIte,reduceCtorEq,zaU,hi,hx,mB,e4,h2,h3,g7,g8];refine VCj.read (fun _ _=>fl _) rfl ?_;refine sqx (nq2 r5 (nq2 r7 r9)) ?_;refine hK _ _ ?_;clear hK K;exact PW.at [1,3,4,5,7,10,12,16,17,21,22] hrest rfl rfl
   ·have hf:m.fp=false:=h;rw[hf,if_neg sp,←zxl]at hD;have sx:=fun L=>zix mx L;have sy:=fun L=>zix my L;have pr:=fun L=>zdA g (16 * min (max mx (-1)) 128) (16 * min (max my (-1)) 128) (v1 m d) (v2 m d) 16 (.inr rfl) om L;rw[←hD]at pr;have r5:(fmc R.1).all PV.cell=true:=rfl;have r7:(fmc R.1).length=5:=rfl;have r9:qD 5 [PV.int .i64 0,PV.int .i64 0,PV.slice [] 0 true,PV.slice [] 0 true,PV.slice [] 0 true]=[]:=rfl;(repeat refine PW.seq ?_);refine PW.drawi [H.length+5] [(17,[0])] [] [72,74,82] mix kr (by simp<;>omega) fun K hK=> ?_;simp(maxSteps:=3000000) (disch:=omega) only[go_sem,↓reduceIte,reduceCtorEq,zaU,hi,hx,mB,e4,h4,g7,g8];refine VCj.read (fun _ _=>sx _) rfl ?_;refine sqz ?_;refine VCj.read (fun _ _=>sy _) rfl ?_;simp(maxSteps:=3000000) (disch:=omega) only[go_sem,↓reduceIte,reduceCtorEq,zaU,hi,hx,mB,e4,h4,g7,g8];refine VCj.read (fun _ _=>pr _) rfl ?_;refine sqx (nq2 r5 (nq2 r7 r9)) ?_;refine hK _ _ ?_;clear hK K;exact PW.at [1,3,4,5,7,10,12,16,17,21,22] hrest rfl rfl
  refine PW.e ?_;refine PW.c (fun h=> ?_) (fun h=> ?_)
  ·have he2:R.2≠0:=by simpa using h
   rw[if_pos he2]at hr;refine PW.e ?_;refine PW.v (.tup [.agg [.int .i64 0,.int .i64 0,.slice [] 0 true,.slice [] 0 true,.slice [] 0 true],.int .i64 R.2]) ?_;rw[←hr];exact Fin.base (fz0 _ _ _)
  have he2:R.2=0:=by simpa using h
  rw[if_neg (by simp[he2])]at hr;have hR:=h16 he2;have nx:=ih (d+1) (l++[R.1]) om (fun g hg=>by
   rcases qO.1 hg with hg|hg
   ·exact hl g hg
   ·rw[List.mem_singleton]at hg;rw[hg];exact hR) (by rw[List.length_append];simp only[List.length_cons,List.length_nil];omega) hr
  have r7:(fmc R.1).length=5:=rfl;have r8:qC 5 (fmc R.1)=fmc R.1:=rfl;have r5:(fmc R.1).all PV.cell=true:=rfl;have lf:=zzU l;have lb:l.length≤2:=by rw[hlen];unfold zna;split<;>split<;>omega
  have fa:(l++[R.1]).flatMap fmc=l.flatMap fmc++fmc R.1:=by simp
  have ll1:(l++[R.1]).length=l.length+1:=by simp
  have lp:(l.flatMap fmc++fmc R.1).length=(l.length+1) * 5:=by rw[List.length_append,lf,r7];omega
  rw[fa,ll1]at nx;refine PW.skip ?_;refine PW.g (nq2 r5 (nq2 r7 (nq2 r8 lf))) ?_;refine PW.e ?_;rw[lp];refine PL.view (Vs.trim (F1:=[(1,.ptr i 0 0),(3,.int .i64 mx),(4,.int .i64 my),(5,.ptr H.length 0 0),(7,.ptr (H.length+1) 0 0),(10,.ptr (H.length+2) 0 0),(12,.msl (H.length+3) ((l.length+1) * 5) 0 (l.length+1) 5 true),(21,.agg [.bool m.ua,.bool m.ub]),(22,.int .i64 ((d+1:Nat):Int))]) (H1:=H++[⟨152,0,cxc c⟩,⟨84,0,fmc pa++(fmc fu++fmc fi)⟩,⟨33,0,[.int .i64 0,.int .i64 0,.slice [] 0 true,.slice [] 0 true,.slice [] 0 true]⟩,⟨33,(l.length+1) * 5,l.flatMap fmc++fmc R.1⟩]) (zey ?_) sp (qM _ [_,_,_,_] [_,_]).symm ?_) nx
  ·intro b hb z hz;simp only[qJ,qI,or_false]at hb;rcases hb with rfl|rfl|rfl|rfl
   ·simp only[cxc,qJ,qI,or_false]at hz;rcases hz with rfl|rfl|rfl|rfl
    ·exact .int _ _
    ·exact .int _ _
    ·exact .bool _
    ·exact .bool _
   ·rcases qO.1 hz with hz|hz
    ·exact zbo _ _ _ _ _ _ _ _ _ _ _ _ z hz
    ·rcases qO.1 hz with hz|hz
     ·exact zbo _ _ _ _ _ _ _ _ _ _ _ _ z hz
     ·exact zbo _ _ _ _ _ _ _ _ _ _ _ _ z hz
   ·exact zbo _ 0 0 [] [] [] _ _ _ _ _ _ z hz
   ·rcases qO.1 hz with hz|hz
    ·obtain⟨g,_,hg⟩:=List.mem_flatMap.1 hz;exact zbo _ _ _ _ _ _ _ _ _ _ _ _ z hg
    ·exact zbo _ _ _ _ _ _ _ _ _ _ _ _ z hz
  ·rw[hl4];exact⟨.id (.ptr om),.id (.int _ _),.id (.int _ _),.id (.ptr om),.id (.ptr om),.id (.ptr om),.id (.msl om),.id (zw fun x hx=>by
    simp only[qJ,qI,or_false]at hx;rcases hx with rfl|rfl<;>exact .bool _),.id (.int _ _),trivial⟩
theorem zxt(H:za):CallOk Tryz.prog 282 [.int .u64 1,.int .u64 64] H (.tup [.int .u64 0,.int .u64 64]) H:=CallOk.evalV 100000 kr (fun x hx=>by
 simp only[qJ,qI,or_false]at hx;rcases hx with rfl|rfl<;>exact .int _ _)
theorem zuP(H:za):CallOk Tryz.prog 282 [.int .u64 1,.int .u64 256] H (.tup [.int .u64 0,.int .u64 256]) H:=CallOk.evalV 100000 kr (fun x hx=>by
 simp only[qJ,qI,or_false]at hx;rcases hx with rfl|rfl<;>exact .int _ _)
def rpk(n k:Nat):List UInt8:=qA k 128++qA (n - k) 0
theorem znG{n k:Nat}(h:k≤n):(rpk n k).length=n:=by simp[rpk];omega
theorem znH(n:Nat):rpk n n=qA n 128:=by simp[rpk]
set_option maxHeartbeats 1600000 in
theorem ziC(n:Nat)(hn:n=64∨n=256)(H:za):CallOk Tryz.prog 199 [.slice [.int .u8 128] 1 true,.int .i64 (n:Int)] H (.slice (bs (qA n 128)) n false) H:=by
 have mu:∀ K,CallOk Tryz.prog 282 [.int .u64 1,.int .u64 (n:Int)] K (.tup [.int .u64 0,.int .u64 (n:Int)]) K:=fun K=>by
  rcases hn with rfl|rfl
  ·exact zxt K
  ·exact zuP K
 have hz:(qA n [PV.int .u8 0]).flatten=bs (qA n 0):=zdj n;have u1:IntKind.u64.wrap (n:Int)=(n:Int):=by rcases hn with rfl|rfl<;>rfl
 have u2:IntKind.u64.wrap 1=1:=rfl;refine CallOk.go Tryz.func199 Tryz.ntmps199 Tryz.results199 ?_;refine PW.e ?_;refine PW.e ?_;refine PW.us ?_;refine PW.m (nq2 u1 u2) mu ?_;(repeat refine PW.seq ?_);refine PW.rgv (P:=Tryz.prog) [0,6] 26 (.bool false) ?_ ?_ ?_
 ·rfl
 ·simp(maxSteps:=3000000) (disch:=omega) only[go_sem,↓reduceIte,reduceCtorEq];(repeat'((first|refine zh ?_ ?_|refine zk ?_ ?_|refine zU ?_ ?_|refine VOh_cond ?_ ?_|refine zT ?_ ?_|refine And.intro ?_ ?_)<;>intro h<;>(try simp only[nqb]at h)<;>simp(maxSteps:=3000000) (disch:=omega) only[go_sem,↓reduceIte,reduceCtorEq,h]));all_goals(simp_all[slot,qN]<;>first|rfl|omega|(rw[qE];simp;done)|(rw[qE];simp;omega))
 refine PW.us ?_;refine PW.e ?_;rw[hz];have mn:min 1 n=1:=om;refine PW.f (fun K k=>by simp(maxSteps:=3000000) (disch:=omega) only[go_sem,↓reduceIte,reduceCtorEq,zd,qG,mn];exact k) ?_;refine PW.l ?_;suffices hloop:∀ k:Nat,1≤k→k≤n→PL Tryz.prog _ _ [(7,.msl H.length 0 0 n 1 true),(8,.int .i64 (k:Int))] (H++[⟨5,0,bs (rpk n k)⟩]) _ by exact PL.at [7,8] (hloop 1 om om) rfl (by simp[zM];rcases hn with rfl|rfl<;>rfl)
 intro k hk1 hkn;induction hm:n - k using Nat.strongRecOn generalizing k with
 | _ d ih=>
  have hl:=znG hkn;refine PL.round ?_;refine PW.e ?_;refine PW.c (fun h=> ?_) (fun h=> ?_)
  ·have h4:k<n:=ot h;refine PW.skip ?_;refine PW.b ?_;(repeat refine PW.seq ?_);refine PW.draw mix kr fun K hK=> ?_;simp(maxSteps:=3000000) (disch:=omega) only[go_sem,↓reduceIte,reduceCtorEq,zd,hl];refine hK _ _ ?_;clear hK K;have hm1:min (k - 0) (n - k)=min k (n - k):=by rw[qP]
   rw[hm1,qP];have e1:(k:Int)+((min k (n - k):Nat):Int)=((k+min k (n - k):Nat):Int):=om;rw[e1];have e2:qC k (bs (rpk n k))=bs (qA k 128):=by rw[zbS];congr 1;unfold rpk;rw[qS sp,qF sp]
   have e3:qC (min k (n - k)) (bs (qA k (128:UInt8)))=bs (qA (min k (n - k)) 128):=by rw[zbS,qY];congr 2;omega
   have e4:qD (k+(bs (qA (min k (n - k)) (128:UInt8))).length) (bs (rpk n k))=bs (qA (n - (k+min k (n - k))) 0):=by rw[zd,qG,zcF];congr 1;unfold rpk;rw[List.drop_append,qG,qK sp,List.nil_append,qZ];congr 1;omega
   rw[e2,e3,e4];have e5:bs (qA k 128)++(bs (qA (min k (n - k)) 128)++bs (qA (n - (k+min k (n - k))) 0))=bs (rpk n (k+min k (n - k))):=by rw[←zF,←zF];unfold rpk;rw[←qM,qQ]
   rw[e5];exact PL.at [7,8] (ih (n - (k+min k (n - k))) om (k+min k (n - k)) om om rfl) rfl rfl
  ·have h4:k=n:=ofF h;subst h4;refine PW.exit ?_;rw[znH];refine PW.e ?_;refine PW.ret ⟨_,rfl,?_⟩;exact Fin.base (Fz.mslC (e:=5) (xs:=bs (qA k 128)) om (hp0 _ _ _) (by simp[zd]) (FzC.refl (zn _ _)))
theorem zzK:fmc gry=[.int .i64 16,.int .i64 16,.slice (bs (qA 256 128)) 256 false,.slice (bs (qA 64 128)) 64 false,.slice (bs (qA 64 128)) 64 false]:=F16.gry.c
set_option maxRecDepth 10000 in
theorem zvg(H:za):CallOk Tryz.prog 123 [.int .i64 16,.int .i64 16,.int .u8 128,.int .u8 128,.int .u8 128] H (.tup [.agg (fmc gry),.int .i64 0]) H:=by have fz:=fun K=>zjY 16 16 K;rw[show fsz 16 16=true by decide]at fz;have r1:=fun K=>ziC 256 (.inr rfl) K;have r2:=fun K=>ziC 64 (.inl rfl) K;rw[zzK];generalize qA 256 (128:UInt8)=A at r1 ⊢;generalize qA 64 (128:UInt8)=B at r2 ⊢;have d1:(16:Int).tdiv 2=8:=rfl;have m1:(16:Int) * 16=((256:Nat):Int):=rfl;have m2:(8:Int) * 8=((64:Nat):Int):=rfl;refine CallOk.go Tryz.func123 Tryz.ntmps123 Tryz.results123 ?_;refine PW.e ?_;refine PW.k fz ?_;refine PW.us ?_;refine PW.g (nq2 d1 (nq2 m1 m2)) ?_;refine PW.f (fun K k=>by simp(maxSteps:=3000000) (disch:=omega) only[go_sem,↓reduceIte,reduceCtorEq];refine VCx.call (r1 _) rfl ?_;simp(maxSteps:=3000000) (disch:=omega) only[go_sem,↓reduceIte,reduceCtorEq];refine VCx.call (r2 _) rfl ?_;simp(maxSteps:=3000000) (disch:=omega) only[go_sem,↓reduceIte,reduceCtorEq];refine VCx.call (r2 _) rfl ?_;simp(maxSteps:=3000000) (disch:=omega) only[go_sem,↓reduceIte,reduceCtorEq];exact k) ?_;refine PW.v (.tup [.agg [.int .i64 16,.int .i64 16,.slice (bs A) 256 false,.slice (bs B) 64 false,.slice (bs B) 64 false],.int .i64 0]) ?_;exact Fin.base (.id (zS _ _ _ _ _ _ _ _ _ _))
theorem zwJ(q:Int)(H:za):CallOk Tryz.prog 128 [.int .i64 q] H (.bool (qnB q)) H:=by refine CallOk.go Tryz.func128 Tryz.ntmps128 Tryz.results128 ?_;(repeat'(first|refine PW.seq ?_|refine PW.skip ?_|refine PW.block ?_|((first|refine PW.rg rfl fun K hK=> ?_|refine PW.draw mix kr fun K hK=> ?_);simp(maxSteps:=3000000) (disch:=omega) only[go_sem,↓reduceIte,reduceCtorEq])|((first|refine zh ?_ ?_|refine zk ?_ ?_|refine And.intro ?_ ?_)<;>intro h<;>(try simp only[nqb]at h)<;>simp(maxSteps:=3000000) (disch:=omega) only[go_sem,↓reduceIte,reduceCtorEq,h])|(refine hK _ _ ?_;clear hK K)|(refine PW.cond (t:=_) rfl (fun h=> ?_) (fun h=> ?_)<;>(try(cases h;done))<;>(try simp only[nqb]at h))));all_goals((refine PW.ret ⟨_,rfl,?_⟩;first|refine .inl ⟨?_,rfl⟩|refine Fin.base (.id' ?_ (.bool _))|refine Fin.base (.id' ?_ (.int _ _)));(simp_all[qnB,slot,qN]<;>first|rfl|omega|(rw[qE];simp;done)|(rw[qE];simp;omega)))
theorem zj6{c:Cx}{fp used:Bool}{a b d e p q:Int}(h:zcB c fp used a b d e p q=true):(p=0∨p=1)∧(q=0∨q=1)∧(used=true→vrg a b=true∧vrg d e=true):=by
 unfold zcB at h;cases used
 ·simp only[Bool.false_eq_true,if_false,qB,decide_eq_true_eq]at h;exact⟨.inl h.2.2.2.2.1,.inl h.2.2.2.2.2,fun e=>by cases e⟩
 ·simp only[if_true,qB,Bool.or_eq_true,decide_eq_true_eq]at h;exact⟨h.2.2.1,h.2.2.2.1,fun _=>⟨h.1,h.2.1⟩⟩
theorem zsI{c:Cx}{m:Mb}(h:fmS c m=true)(hk:m.k=2):PrOk m∧selB m∧lvr m.lv=true:=by
 unfold fmS at h;rw[qB,if_neg om,if_neg om,if_pos hk]at h;have h2:=h.2;unfold zjS at h2;simp only[qB]at h2;obtain⟨hu,_,h0,h1,hl,_⟩:=h2;have d0:=zj6 h0;have d1:=zj6 h1;refine⟨⟨?_,fun d hd hf=> ?_⟩,⟨d0.1,d0.2.1,d1.1,d1.2.1⟩,hl⟩
 ·unfold zgO at hu;cases ha:m.ua<;>cases hb:m.ub<;>simp_all
 ·unfold us at hd;unfold s1 s2 v1 v2 v3 v4;by_cases hz:d=0
  ·simp only[if_pos hz]at hd ⊢;exact⟨d0.1,d0.2.1,d0.2.2 hd⟩
  ·simp only[if_neg hz]at hd ⊢;exact⟨d1.1,d1.2.1,d1.2.2 hd⟩
theorem zx6{c:Cx}{m:Mb}(h:fmS c m=true)(hk:m.k=1):lvr m.lv=true:=by unfold fmS at h;rw[qB,if_neg om,if_pos hk]at h;simp only[qB]at h;exact h.2.2.2.2
theorem zx7{c:Cx}{m:Mb}(h:fmS c m=true):m.k=0∨m.k=1∨m.k=2:=by
 unfold fmS at h;rw[qB]at h;by_cases h0:m.k=0
 ·exact .inl h0
 ·by_cases h1:m.k=1
  ·exact .inr (.inl h1)
  ·by_cases h2:m.k=2
   ·exact .inr (.inr h2)
   ·rw[if_neg h0,if_neg h1,if_neg h2]at h;cases h.2
theorem zyJ:lrm zl384:=fun i=>by unfold zg zl384;rw[qH,List.getElem?_replicate];split<;>simp
theorem zw0(c:Cx):PrOk (stl c):=⟨.inl rfl,fun d _ hf=>by cases hf⟩
theorem zw2(s:Sq)(h:s.ia.length=64):qC 64 (qD 7 (sqc s))=bs s.ia:=zir s.ia s.ie h
theorem zw1(s:Sq)(h:s.ia.length=64)(h':s.ie.length=64):qC 64 (qD 71 (sqc s))=bs s.ie:=by show qC 64 (qD 64 (bs s.ia++bs s.ie))=_;rw[ziq _ _ h,zgY _ h']
theorem ztY(s:Sq)(h:s.ia.length=64)(h':s.ie.length=64):(sqc s).length=135:=by simp[sqc,zd,h,h']
theorem zqC(s:Sq):(sqc s).all PV.cell=true:=by simp[sqc,bs,PV.cell]
set_option maxHeartbeats 6400000 in
set_option maxRecDepth 100000 in
theorem zrc(c:Cx)(s:Sq)(al:Bool)(q:Int)(m:Mb)(pa fu fi:Fm)(mx my:Int)(H:za)(hml:m.lv.length=384)(hia:s.ia.length=64)(hie:s.ie.length=64):
  CallOk Tryz.prog 69 [.agg (cxc c),.agg (sqc s),.bool al,.int .i64 q,.agg (mbc m),.agg (fmc pa++(fmc fu++fmc fi)),.int .i64 mx,.int .i64 my] H (.tup [.agg (fmc (zg7 c s.ia s.ie al q m pa fu fi mx my).1),.int .i64 (zg7 c s.ia s.ie al q m pa fu fi mx my).2]) H:=by
 have fo:=fun L=>zzS c m L hml;have q1:=fun L=>zlt s.ia L hia;have q2:=fun L=>zlt s.ie L hie;have q3:=fun L=>zwJ q L;have c1:=zw2 s hia;have c2:=zw1 s hia hie;have c3:=ztY s hia hie;have c4:=zqC s;have m1:=zcs m hml;have m2:=zcU m;have m3:(mbc m)[0]? =some (.int .i64 m.k):=rfl;have m4:qC 408 (mbc m)=mbc m:=qF om;have m5:qD 408 (mbc m)=[]:=qK om;have cl:(cxc c).length=4:=rfl;have cc:(cxc c).all PV.cell=true:=rfl;have ct4:qC 4 (cxc c)=cxc c:=rfl;have rl:(fmc pa++(fmc fu++fmc fi)).length=15:=rfl;have rc:(fmc pa++(fmc fu++fmc fi)).all PV.cell=true:=rfl;have rt:qC 15 (fmc pa++(fmc fu++fmc fi))=fmc pa++(fmc fu++fmc fi):=rfl;have z9:qD 5 [PV.int .i64 0,PV.int .i64 0,PV.slice [] 0 true,PV.slice [] 0 true,PV.slice [] 0 true]=[]:=rfl;generalize hr:zg7 c s.ia s.ie al q m pa fu fi mx my=r;unfold zg7 at hr;refine CallOk.go Tryz.func69 Tryz.ntmps69 Tryz.results69 ?_;refine PW.g (nq2 cc (nq2 rc (nq2 c4 m2))) ?_;(repeat refine PW.seq ?_);refine PW.rgv (P:=Tryz.prog) [2,3,6,7,8,9,12,13,16,17] 42 (.bool (!(fmS c m&&(zcr s.ia&&(zcr s.ie&&qnB q))))) ?_ ?_ ?_
 ·rfl
 ·clear hr;generalize fmS c m=b1 at fo ⊢;generalize zcr s.ia=b2 at q1 ⊢;generalize zcr s.ie=b3 at q2 ⊢;generalize qnB q=b4 at q3 ⊢;simp(maxSteps:=3000000) (disch:=omega) only[go_sem,↓reduceIte,reduceCtorEq,cl,ct4,m1,m4,c1,c2,c3];(repeat'(first|((first|refine zh ?_ ?_|refine And.intro ?_ ?_)<;>intro h<;>(try simp only[nqb]at h)<;>simp(maxSteps:=3000000) (disch:=omega) only[go_sem,↓reduceIte,reduceCtorEq,cl,ct4,m1,m4,c1,c2,c3,h])|((first|refine VCx.call (fo _) rfl ?_|refine VCx.call (q1 _) rfl ?_|refine VCx.call (q2 _) rfl ?_|refine VCx.call (q3 _) rfl ?_);simp(maxSteps:=3000000) (disch:=omega) only[go_sem,↓reduceIte,reduceCtorEq,cl,ct4,m1,m4,c1,c2,c3])));all_goals(clear fo q1 q2 q3;(simp_all[slot,qN]<;>first|rfl|omega|(rw[qE];simp;done)|(rw[qE];simp;omega)))
 refine PW.c (fun h=> ?_) (fun h=> ?_)
 ·have hb:(fmS c m&&(zcr s.ia&&(zcr s.ie&&qnB q)))=false:=by
   cases hx:(fmS c m&&(zcr s.ia&&(zcr s.ie&&qnB q)))with
   | false=>rfl
   | true=>rw[hx]at h;cases h
  rw[hb,if_neg sp]at hr;refine PW.e ?_;refine PW.v (.tup [.agg [.int .i64 0,.int .i64 0,.slice [] 0 true,.slice [] 0 true,.slice [] 0 true],.int .i64 1]) ?_;rw[←hr];exact Fin.base (fz0 _ _ _)
 have hb:(fmS c m&&(zcr s.ia&&(zcr s.ie&&qnB q)))=true:=by simpa using h
 rw[hb,if_pos rfl]at hr;simp only[qB]at hb;obtain⟨hf,hb1,hb2,hb3⟩:=hb;refine PW.skip ?_;refine PW.g (nq2 m1 m3) ?_;refine PW.c (fun h=> ?_) (fun h=> ?_)
 ·have hk:m.k=1:=by simpa using h
  rw[if_pos hk]at hr;have fl:=fun L=>zvg L;have ad:=fun L hL=>ztu gry F16.gry m (H.length+2) s.ia q al L hL hml (zsg hml (zx6 hf hk)) hia hb1 hb3;generalize gry=g at fl ad hr;obtain⟨g',hg'⟩:∃ g',addN m al s.ia q g 6=g':=⟨_,rfl⟩;rw[hg']at ad hr;have g5:(fmc g).all PV.cell=true:=rfl;have g7:(fmc g).length=5:=rfl;have g8:qC 5 (fmc g)=fmc g:=rfl;have e5:(fmc g').all PV.cell=true:=rfl;have e7:(fmc g').length=5:=rfl;have e8:qC 5 (fmc g')=fmc g':=rfl;refine PW.m (nq2 g5 (nq2 g7 z9)) fl ?_;refine PW.e ?_;refine PW.us ?_;refine PW.f (fun K k=>by simp(maxSteps:=3000000) (disch:=omega) only[go_sem,↓reduceIte,reduceCtorEq,g7,g8,c1,c3,e5,e7,e8,z9];refine VCx.call (ad _ (apn _ _ 2)) rfl ?_;simp(maxSteps:=3000000) (disch:=omega) only[go_sem,↓reduceIte,reduceCtorEq,g7,g8,c1,c3,e5,e7,e8,z9];exact k) ?_;refine PW.w (.tup [.agg (fmc g'),.int .i64 0]) (nq2 e7 e8) ?_;rw[←hr];exact Fin.base (.id (zS _ _ _ _ _ _ _ _ _ _))
 have hk:m.k≠1:=by simpa using h
 rw[if_neg hk]at hr;refine PW.skip ?_;obtain⟨M,hM⟩:∃ M,(if m.k=0 then stl c else m)=M:=⟨_,rfl⟩;have hMl:M.lv.length=384:=by rw[←hM];split;exact zc5;exact hml
 have hMp:PrOk M:=by
  rw[←hM];split
  ·exact zw0 c
  ·exact(zsI hf (by rcases zx7 hf with h|h|h<;>omega)).1
 have hMr:lrm M.lv:=by
  rw[←hM];split
  ·exact zyJ
  ·exact zsg hml (zsI hf (by rcases zx7 hf with h|h|h<;>omega)).2.2
 rw[hM]at hr;suffices hrest:PW Tryz.prog _ _ [(2,.bool al),(3,.int .i64 q),(6,.int .i64 mx),(7,.int .i64 my),(8,.ptr H.length 0 0),(9,.ptr (H.length+1) 0 0),(12,.ptr (H.length+2) 0 0),(13,.ptr (H.length+3) 0 0),(16,.ptr (H.length+4) 0 0)] (H++[⟨152,0,cxc c⟩,⟨29,0,sqc s⟩,⟨149,0,mbc M⟩,⟨84,0,fmc pa++(fmc fu++fmc fi)⟩,⟨33,0,[.int .i64 0,.int .i64 0,.slice [] 0 true,.slice [] 0 true,.slice [] 0 true]⟩]) _ by
  refine PW.g (nq2 m1 m3) ?_;refine PW.c (fun h=> ?_) (fun h=> ?_)
  ·have hz:m.k=0:=by simpa using h
   rw[if_pos hz]at hM;have so:=fun L=>zqx c L;rw[hM]at so;have n1:=zcs M hMl;have n2:=zcU M;refine PW.m (nq2 cl (nq2 ct4 (nq2 m1 (nq2 m5 (nq2 n1 n2))))) so ?_;exact PW.at [2,3,6,7,8,9,12,13,16] hrest rfl rfl
  ·have hz:m.k≠0:=by simpa using h
   rw[if_neg hz]at hM;subst hM;refine PW.skip ?_;exact PW.at [2,3,6,7,8,9,12,13,16] hrest rfl rfl
 have h16:(prS c M pa fu fi mx my).2=0→F16 (prS c M pa fu fi mx my).1:=zrm;have pr:=fun L hL=>zk0 c M (H.length+2) pa fu fi mx my L hL hMl hMp;generalize prS c M pa fu fi mx my=T at pr hr h16;obtain⟨g,e⟩:=T;simp only at pr hr h16;have g5:(fmc g).all PV.cell=true:=rfl;have g7:(fmc g).length=5:=rfl;have g8:qC 5 (fmc g)=fmc g:=rfl;refine PW.f (fun K k=>by simp(maxSteps:=3000000) (disch:=omega) only[go_sem,↓reduceIte,reduceCtorEq,cl,ct4,rl,rt,g5,g7,z9];refine VCx.call (pr _ (apn _ _ 2)) rfl ?_;simp(maxSteps:=3000000) (disch:=omega) only[go_sem,↓reduceIte,reduceCtorEq,cl,ct4,rl,rt,g5,g7,z9];exact k) ?_;refine PW.e ?_;refine PW.c (fun h=> ?_) (fun h=> ?_)
 ·have he:e≠0:=by simpa using h
  rw[if_pos he]at hr;refine PW.e ?_;refine PW.v (.tup [.agg [.int .i64 0,.int .i64 0,.slice [] 0 true,.slice [] 0 true,.slice [] 0 true],.int .i64 e]) ?_;rw[←hr];exact Fin.base (fz0 _ _ _)
 have he:e=0:=by simpa using h
 rw[if_neg (by simp[he])]at hr;have ad:=fun L hL=>ztu g (h16 he) M (H.length+2) s.ie q al L hL hMl hMr hie hb2 hb3;obtain⟨g',hg'⟩:∃ g',addN M al s.ie q g 6=g':=⟨_,rfl⟩;rw[hg']at ad hr;have e5:(fmc g').all PV.cell=true:=rfl;have e7:(fmc g').length=5:=rfl;have e8:qC 5 (fmc g')=fmc g':=rfl;refine PW.skip ?_;refine PW.f (fun K k=>by simp(maxSteps:=3000000) (disch:=omega) only[go_sem,↓reduceIte,reduceCtorEq,g7,g8,c2,c3,e5,e7,e8,z9];refine VCx.call (ad _ (apn _ _ 2)) rfl ?_;simp(maxSteps:=3000000) (disch:=omega) only[go_sem,↓reduceIte,reduceCtorEq,g7,g8,c2,c3,e5,e7,e8,z9];exact k) ?_;refine PW.w (.tup [.agg (fmc g'),.int .i64 0]) (nq2 e7 e8) ?_;rw[←hr];exact Fin.base (.id (zS _ _ _ _ _ _ _ _ _ _))
def flt(A B:Nat):Fm:=⟨((16 * A:Nat):Int),((16 * B:Nat):Int),qA (16 * A * (16 * B)) 128,qA (8 * A * (8 * B)) 128,qA (8 * A * (8 * B)) 128⟩
theorem zzT(A B:Nat):fmc (flt A B)=[.int .i64 ((16 * A:Nat):Int),.int .i64 ((16 * B:Nat):Int),.slice (bs (qA (16 * A * (16 * B)) 128)) (16 * A * (16 * B)) false,.slice (bs (qA (8 * A * (8 * B)) 128)) (8 * A * (8 * B)) false,.slice (bs (qA (8 * A * (8 * B)) 128)) (8 * A * (8 * B)) false]:=by unfold flt fmc;simp only[qG]
theorem zzA(k:Nat)(hk:k≤64)(H:za):CallOk Tryz.prog 282 [.int .u64 1,.int .u64 ((64 * k:Nat):Int)] H (.tup [.int .u64 0,.int .u64 ((64 * k:Nat):Int)]) H:=by
 have h:((List.range 65).all fun k=>zsp (zhO Tryz.prog 100000 (.call 282 [.int .u64 1,.int .u64 ((64 * k:Nat):Int)] [])) (.tup [.int .u64 0,.int .u64 ((64 * k:Nat):Int)]))=true:=kr;exact CallOk.evalV 100000 (qR.1 h k (qT.2 om)) (fun x hx=>by
  simp only[qJ,qI,or_false]at hx;rcases hx with rfl|rfl<;>exact .int _ _)
theorem zwF(k:Nat)(hk:k≤64):IntKind.u64.wrap ((64 * k:Nat):Int)=((64 * k:Nat):Int):=by have h:((List.range 65).all fun k=>decide (IntKind.u64.wrap ((64 * k:Nat):Int)=((64 * k:Nat):Int)))=true:=kr;exact of_decide_eq_true (qR.1 h k (qT.2 om))
set_option maxHeartbeats 1600000 in
theorem zg6(n k:Nat)(hn:n=64 * k)(hk:1≤k∧k≤64)(H:za):CallOk Tryz.prog 199 [.slice [.int .u8 128] 1 true,.int .i64 (n:Int)] H (.slice (bs (qA n 128)) n false) H:=by
 have mu:∀ K,CallOk Tryz.prog 282 [.int .u64 1,.int .u64 (n:Int)] K (.tup [.int .u64 0,.int .u64 (n:Int)]) K:=fun K=>by rw[hn];exact zzA k hk.2 K
 have hz:(qA n [PV.int .u8 0]).flatten=bs (qA n 0):=zdj n;have u1:IntKind.u64.wrap (n:Int)=(n:Int):=by rw[hn];exact zwF k hk.2
 have u2:IntKind.u64.wrap 1=1:=rfl;have hnb:1≤n∧n≤4096:=om;clear hn;refine CallOk.go Tryz.func199 Tryz.ntmps199 Tryz.results199 ?_;refine PW.e ?_;refine PW.e ?_;refine PW.us ?_;refine PW.m (nq2 u1 u2) mu ?_;(repeat refine PW.seq ?_);refine PW.rgv (P:=Tryz.prog) [0,6] 26 (.bool false) ?_ ?_ ?_
 ·rfl
 ·simp(disch:=omega) only[go_sem,↓reduceIte,reduceCtorEq];(repeat'((first|refine zh ?_ ?_|refine zk ?_ ?_|refine zU ?_ ?_|refine VOh_cond ?_ ?_|refine zT ?_ ?_|refine And.intro ?_ ?_)<;>intro h<;>(try simp only[nqb]at h)<;>simp(disch:=omega) only[go_sem,↓reduceIte,reduceCtorEq,h]));all_goals(simp_all[slot,qN]<;>first|rfl|omega|(rw[qE];simp;done)|(rw[qE];simp;omega))
 refine PW.us ?_;refine PW.e ?_;rw[hz];have mn:min 1 n=1:=om;refine PW.f (fun K k=>by simp(disch:=omega) only[go_sem,↓reduceIte,reduceCtorEq,zd,qG,mn];exact k) ?_;refine PW.l ?_;suffices hloop:∀ k:Nat,1≤k→k≤n→PL Tryz.prog _ _ [(7,.msl H.length 0 0 n 1 true),(8,.int .i64 (k:Int))] (H++[⟨5,0,bs (rpk n k)⟩]) _ by refine PL.at [7,8] (hloop 1 om om) rfl ?_;obtain⟨m,rfl⟩:∃ m,n=m+1:=⟨n - 1,om⟩;simp[zM,rpk,bs,List.replicate_succ]
 intro k hk1 hkn;induction hm:n - k using Nat.strongRecOn generalizing k with
 | _ d ih=>
  have hl:=znG hkn;refine PL.round ?_;refine PW.e ?_;refine PW.c (fun h=> ?_) (fun h=> ?_)
  ·have h4:k<n:=ot h;refine PW.skip ?_;refine PW.b ?_;(repeat refine PW.seq ?_);refine PW.draw mix kr fun K hK=> ?_;simp(disch:=omega) only[go_sem,↓reduceIte,reduceCtorEq,zd,hl];refine hK _ _ ?_;clear hK K;have hm1:min (k - 0) (n - k)=min k (n - k):=by rw[qP]
   rw[hm1,qP];have e1:(k:Int)+((min k (n - k):Nat):Int)=((k+min k (n - k):Nat):Int):=om;rw[e1];have e2:qC k (bs (rpk n k))=bs (qA k 128):=by rw[zbS];congr 1;unfold rpk;rw[qS sp,qF sp]
   have e3:qC (min k (n - k)) (bs (qA k (128:UInt8)))=bs (qA (min k (n - k)) 128):=by rw[zbS,qY];congr 2;omega
   have e4:qD (k+(bs (qA (min k (n - k)) (128:UInt8))).length) (bs (rpk n k))=bs (qA (n - (k+min k (n - k))) 0):=by rw[zd,qG,zcF];congr 1;unfold rpk;rw[List.drop_append,qG,qK sp,List.nil_append,qZ];congr 1;omega
   rw[e2,e3,e4];have e5:bs (qA k 128)++(bs (qA (min k (n - k)) 128)++bs (qA (n - (k+min k (n - k))) 0))=bs (rpk n (k+min k (n - k))):=by rw[←zF,←zF];unfold rpk;rw[←qM,qQ]
   rw[e5];exact PL.at [7,8] (ih (n - (k+min k (n - k))) om (k+min k (n - k)) om om rfl) rfl rfl
  ·have h4:k=n:=ofF h;subst h4;refine PW.exit ?_;rw[znH];refine PW.e ?_;refine PW.ret ⟨_,rfl,?_⟩;exact Fin.base (Fz.mslC (e:=5) (xs:=bs (qA k 128)) om (hp0 _ _ _) (by simp[zd]) (FzC.refl (zn _ _)))
theorem nAB{A B:Nat}(hA:1≤A∧A≤4)(hB:1≤B∧B≤4):1≤A * B∧A * B≤16:=⟨Nat.mul_pos om om,Nat.mul_le_mul hA.2 hB.2⟩
set_option maxRecDepth 10000 in
theorem zsK(A B:Nat)(hA:1≤A∧A≤4)(hB:1≤B∧B≤4)(H:za):CallOk Tryz.prog 123 [.int .i64 ((16 * A:Nat):Int),.int .i64 ((16 * B:Nat):Int),.int .u8 128,.int .u8 128,.int .u8 128] H (.tup [.agg (fmc (flt A B)),.int .i64 0]) H:=by
 have fz:=fun K=>zjY ((16 * A:Nat):Int) ((16 * B:Nat):Int) K;have hfs:fsz ((16 * A:Nat):Int) ((16 * B:Nat):Int)=true:=by simp only[fsz,qB,decide_eq_true_eq];omega
 rw[hfs]at fz;have nb:=nAB hA hB;have p1:16 * A * (16 * B)=64 * (4 * (A * B)):=by rw[qX];omega
 have p2:8 * A * (8 * B)=64 * (A * B):=by rw[qX]
 have r1:=fun K=>zg6 (16 * A * (16 * B)) _ p1 om K;have r2:=fun K=>zg6 (8 * A * (8 * B)) _ p2 om K;rw[zzT];have b1:16 * A * (16 * B)≤4096:=om;have b2:8 * A * (8 * B)≤4096:=om;have m1:((16 * A:Nat):Int) * ((16 * B:Nat):Int)=((16 * A * (16 * B):Nat):Int):=(qL _ _).symm;have m2:((8 * A:Nat):Int) * ((8 * B:Nat):Int)=((8 * A * (8 * B):Nat):Int):=(qL _ _).symm;have d1:((16 * A:Nat):Int).tdiv 2=((8 * A:Nat):Int):=by rw[zu _ _ om];omega
 have d2:((16 * B:Nat):Int).tdiv 2=((8 * B:Nat):Int):=by rw[zu _ _ om];omega
 generalize 16 * A * (16 * B)=n1 at r1 m1 b1 p1 ⊢;generalize 8 * A * (8 * B)=n2 at r2 m2 b2 p2 ⊢;generalize qA n1 (128:UInt8)=P at r1 ⊢;generalize qA n2 (128:UInt8)=Q at r2 ⊢;refine CallOk.go Tryz.func123 Tryz.ntmps123 Tryz.results123 ?_;refine PW.e ?_;refine PW.k fz ?_;refine PW.us ?_;refine PW.g (nq2 d1 (nq2 d2 (nq2 m1 m2))) ?_;refine PW.f (fun K k=>by simp(disch:=omega) only[go_sem,↓reduceIte,reduceCtorEq];refine VCx.call (r1 _) rfl ?_;simp(disch:=omega) only[go_sem,↓reduceIte,reduceCtorEq];refine VCx.call (r2 _) rfl ?_;simp(disch:=omega) only[go_sem,↓reduceIte,reduceCtorEq];refine VCx.call (r2 _) rfl ?_;simp(disch:=omega) only[go_sem,↓reduceIte,reduceCtorEq];exact k) ?_;refine PW.v (.tup [.agg [.int .i64 ((16 * A:Nat):Int),.int .i64 ((16 * B:Nat):Int),.slice (bs P) n1 false,.slice (bs Q) n2 false,.slice (bs Q) n2 false],.int .i64 0]) ?_;exact Fin.base (.id (zS _ _ _ _ _ _ _ _ _ _))
end Go.Proofs.YtpjlfoficnpfoaaGreatDoor.Sc
