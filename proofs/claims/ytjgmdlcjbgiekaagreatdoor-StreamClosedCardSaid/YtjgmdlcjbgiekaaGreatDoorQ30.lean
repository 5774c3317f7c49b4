/-
  Parts of the proof, put together in one text. No condition.
-/
import Derived.Test.YtjgmdlcjbgiekaaGreatDoorQ29
namespace Go.Proofs.YtjgmdlcjbgiekaaGreatDoor.Sc
set_option linter.all false
open Pm Ty Go.RowKit
def rgI (n:Nat) (f:Nat→Int):List Int:=(List.range n).map f
theorem zbt (n:Nat) (f:Nat→Int):(rgI n f).length=n:=by simp [rgI]
theorem zbN {n:Nat} (f:Nat→Int) {i:Nat} (h:i<n):zh (rgI n f) i=f i:=by simp [rgI,zh,h]
theorem zdE {n:Nat} {f g:Nat→Int} (h:∀ i,i<n→f i=g i):rgI n f=rgI n g:=List.map_congr_left fun i hi=>h i (List.mem_range.1 hi)
theorem zh6 (n:Nat) (f:Nat→Int) (i:Nat) (v:Int):(rgI n f).set i v=rgI n fun j=>if j=i then v else f j:=by
 apply List.ext_getElem
 ·simp [rgI]
 intro j h1 h2
 simp only [rgI,List.getElem_set,List.getElem_map,List.getElem_range]
 by_cases hj:i=j
 ·rw [if_pos hj,if_pos hj.symm]
 ·rw [if_neg hj,if_neg (fun e=>hj e.symm)]
theorem zt1 (l:List Int):rgI l.length (zh l)=l:=by
 apply List.ext_getElem
 ·simp [rgI]
 intro j h1 h2
 simp [rgI,zh,h2]
def u8 (v:Int):UInt8:=UInt8.ofNat v.toNat
theorem zeK {v:Int} (h:0≤v∧v≤255):((u8 v).toNat:Int)=v:=by
 unfold u8
 rw [UInt8.toNat_ofNat']
 omega
def rgB (n:Nat) (f:Nat→Int):List UInt8:=(List.range n).map fun k=>u8 (f k)
theorem zcO (n:Nat) (f:Nat→Int):(rgB n f).length=n:=by simp [rgB]
theorem zoL (n:Nat) (f:Nat→Int):rgB (n+1) f=rgB n f++[u8 (f n)]:=by simp [rgB,List.range_succ]
theorem zkD {n:Nat} (f:Nat→Int) {i:Nat} (h:i<n) (hf:0≤f i∧f i≤255):byt (rgB n f) i=f i:=by
 simp only [byt,rgB]
 rw [List.getD_eq_getElem?_getD,List.getElem?_map,List.getElem?_range h]
 exact zeK hf
theorem zrl {n:Nat} {f g:Nat→Int} (h:∀ i,i<n→f i=g i):rgB n f=rgB n g:=List.map_congr_left fun i hi=>by rw [h i (List.mem_range.1 hi)]
theorem zmG {p q:List UInt8} (hl:p.length=q.length) (h:∀ i,i<p.length→byt p i=byt q i):p=q:=by
 apply List.ext_getElem hl
 intro i h1 h2
 have:=h i h1
 simp only [byt,List.getD_eq_getElem?_getD,List.getElem?_eq_getElem h1,List.getElem?_eq_getElem h2,Option.getD_some] at this
 exact UInt8.toNat_inj.1 (by omega)
theorem zf2 (p:List UInt8) (i j:Nat) (v:UInt8) (h:i<p.length):byt (p.set i v) j=if j=i then (v.toNat:Int) else byt p j:=by
 simp only [byt,List.getD_eq_getElem?_getD,List.getElem?_set]
 by_cases hj:j=i
 ·subst hj;simp [h]
 ·rw [if_neg (fun e=>hj e.symm),if_neg hj]
theorem zb3 {p q:List UInt8} {i:Nat} (h:i<p.length):byt (p++q) i=byt p i:=by
 simp only [byt,List.getD_eq_getElem?_getD,List.getElem?_append_left h]
theorem zb2 {p q:List UInt8} {i:Nat} (h:p.length≤i):byt (p++q) i=byt q (i - p.length):=by
 simp only [byt,List.getD_eq_getElem?_getD,List.getElem?_append_right h]
theorem zdw {p:List UInt8} {i n:Nat} (h:i<n):byt (p.take n) i=byt p i:=by
 simp only [byt,List.getD_eq_getElem?_getD,List.getElem?_take,if_pos h]
theorem zdx (p:List UInt8) (i n:Nat):byt (p.drop n) i=byt p (n+i):=by
 simp only [byt,List.getD_eq_getElem?_getD,List.getElem?_drop]
theorem ziO (p:List UInt8) (a s w:Nat):∀ r,(∀ k,k<r→a+k * s+w≤p.length)→∀ j c,j<r→c<w→byt (ctl p a s w r) (j * w+c)=byt p (a+j * s+c)
 | 0,_,j,c,hj,_=>by omega
 | r+1,h,j,c,hj,hc=>by
  have hr:=h r (by omega)
  have hl:=zaS p a s w r fun k hk=>h k (by omega)
  rw [zg4]
  by_cases hjr:j=r
  ·subst hjr
   rw [zb2 (by omega),hl,show j * w+c - j * w=c by omega,zdw hc,zdx]
  ·have h1:j * w+w≤r * w:=by
    have:(j+1) * w≤r * w:=Nat.mul_le_mul_right _ (by omega)
    rwa [Nat.succ_mul] at this
   rw [zb3 (by omega),ziO p a s w r (fun k hk=>h k (by omega)) j c (by omega) hc]
def spl (p:List UInt8) (a:Nat) (z:List UInt8):List UInt8:=p.take a++(z++p.drop (a+z.length))
theorem zre {p z:List UInt8} {a:Nat} (h:a+z.length≤p.length):(spl p a z).length=p.length:=by simp [spl];omega
theorem zol {p z:List UInt8} {a:Nat} (h:a+z.length≤p.length) (i:Nat):byt (spl p a z) i=if a≤i∧i<a+z.length then byt z (i - a) else byt p i:=by
 have hl:(p.take a).length=a:=by simp;omega
 unfold spl
 by_cases h1:i<a
 ·rw [zb3 (by omega),zdw h1,if_neg (by omega)]
 ·rw [zb2 (by omega),hl]
  by_cases h2:i<a+z.length
  ·rw [zb3 (by omega),if_pos ⟨by omega,h2⟩]
  ·rw [zb2 (by omega),zdx,if_neg (by omega)]
   congr 1;omega
def pst (p:List UInt8) (a s w:Nat) (z:List UInt8):Nat→List UInt8
 | 0=>p
 | r+1=>spl (pst p a s w z r) (a+r * s) ((z.drop (r * w)).take w)
theorem zbU {z:List UInt8} {w r j:Nat} (hz:z.length=r * w) (hj:j<r):((z.drop (j * w)).take w).length=w:=by
 have:(j+1) * w≤r * w:=Nat.mul_le_mul_right _ (by omega)
 rw [Nat.succ_mul] at this
 simp;omega
theorem zax {p:List UInt8} {a s w:Nat} {z:List UInt8} {m:Nat} (hz:z.length=m * w):∀ r,r≤m→(∀ k,k<r→a+k * s+w≤p.length)→(pst p a s w z r).length=p.length
 | 0,_,_=>rfl
 | r+1,hr,h=>by
  have ih:=zax (p:=p) (a:=a) (s:=s) hz r (by omega) fun k hk=>h k (by omega)
  have hl:=zbU hz (show r<m by omega)
  have:=h r (by omega)
  rw [pst,zre (by omega),ih]
theorem zfM {p:List UInt8} {a s w:Nat} {z:List UInt8} {m:Nat} (hz:z.length=m * w) (hs:w≤s):∀ r,r≤m→(∀ k,k<r→a+k * s+w≤p.length)→∀ j c,j<r→c<w→byt (pst p a s w z r) (a+j * s+c)=byt z (j * w+c)
 | 0,_,_,j,c,hj,_=>by omega
 | r+1,hr,h,j,c,hj,hc=>by
  have hpl:=zax (p:=p) (a:=a) (s:=s) hz r (by omega) fun k hk=>h k (by omega)
  have ih:=zfM (p:=p) (a:=a) hz hs r (by omega) fun k hk=>h k (by omega)
  have hl:=zbU hz (show r<m by omega)
  have:=h r (by omega)
  rw [pst,zol (by omega)]
  by_cases hjr:j=r
  ·subst hjr
   rw [if_pos (by omega),show a+j * s+c - (a+j * s)=c by omega,zdw hc,zdx]
  ·obtain ⟨d,rfl⟩:∃ d,r=j+1+d:=⟨r - (j+1),by omega⟩
   have e:(j+1+d) * s=j * s+s+d * s:=by rw [Nat.add_mul,Nat.add_mul,Nat.one_mul]
   rw [if_neg (by omega),ih j c (by omega) hc]
theorem zgy {p:List UInt8} {a s w:Nat} {z:List UInt8} {m:Nat} (hz:z.length=m * w) {i:Nat}:∀ r,r≤m→(∀ k,k<r→a+k * s+w≤p.length)→(∀ j,j<r→¬ (a+j * s≤i∧i<a+j * s+w))→byt (pst p a s w z r) i=byt p i
 | 0,_,_,_=>rfl
 | r+1,hr,h,hm=>by
  have hpl:=zax (p:=p) (a:=a) (s:=s) hz r (by omega) fun k hk=>h k (by omega)
  have ih:=zgy (p:=p) (a:=a) (s:=s) hz (i:=i) r (by omega) (fun k hk=>h k (by omega)) fun j hj=>hm j (by omega)
  have hl:=zbU hz (show r<m by omega)
  have:=h r (by omega)
  have:=hm r (by omega)
  rw [pst,zol (by omega),if_neg (by omega),ih]
def zfB (f:Nat→Int):Nat→Int
 | 0=>0
 | n+1=>zfB f n+f n
theorem zfK {f:Nat→Int} {B:Int} (h:∀ j,-B≤f j∧f j≤B):∀ n:Nat,-(n * B)≤zfB f n∧zfB f n≤n * B
 | 0=>by simp [zfB]
 | n+1=>by
  have ih:=zfK h n
  have hn:=h n
  have e:((n+1:Nat):Int) * B=n * B+B:=by rw [Int.natCast_add,Int.add_mul];simp
  rw [zfB,e]
  omega
theorem zgN {a b A B:Int} (ha: -A≤a∧a≤A) (hb: -B≤b∧b≤B): -(A * B)≤a * b∧a * b≤A * B:=by
 have h1:a.natAbs≤A.toNat:=by omega
 have h2:b.natAbs≤B.toNat:=by omega
 have h3:=Nat.mul_le_mul h1 h2
 rw [←Int.natAbs_mul] at h3
 have h4:((A.toNat * B.toNat:Nat):Int)=A * B:=by
  rw [Int.natCast_mul,Int.toNat_of_nonneg (by omega),Int.toNat_of_nonneg (by omega)]
 omega
def tmL:List Int:=[8,8,8,8,8,8,8,8,12,10,6,3,-3,-6,-10,-12,8,4,-4,-8,-8,-4,4,8,10,-3,-12,-6,6,12,3,-10,8,-8,-8,8,8,-8,-8,8,6,-12,3,10,-10,-3,12,-6,4,-8,8,-4,-4,8,-8,4,3,-6,10,-12,12,-10,6,-3]
def bas (i k:Nat):Int:=zh tmL (8 * i+k)
def nrL:List Int:=[512,578,320,578,512,578,320,578]
def msL:List Int:=[1445,1280,2312,1280,1445,1280,2312,1280]
def tS (j l:Nat):Int:=bas j l * zh msL j
theorem zgR {l:List Int} {B:Int} (h0:0≤B) (h:∀ x∈l,-B≤x∧x≤B) (i:Nat): -B≤zh l i∧zh l i≤B:=by
 unfold zh
 by_cases hi:i<l.length
 ·rw [List.getD_eq_getElem?_getD,List.getElem?_eq_getElem hi];exact h _ (List.getElem_mem hi)
 ·rw [List.getD_eq_getElem?_getD,List.getElem?_eq_none (by omega)];simp;omega
theorem zva (i k:Nat): -12≤bas i k∧bas i k≤12:=zgR (by omega) (by decide) _
theorem ztb (i:Nat): -2312≤zh msL i∧zh msL i≤2312:=zgR (by omega) (by decide) _
theorem zn7 (j l:Nat): -27744≤tS j l∧tS j l≤27744:=zgN (zva j l) (ztb j)
def znu (v:Int):Int:=max (-2097152) (min v 2097152)
theorem zsy (v:Int): -2097152≤znu v∧znu v≤2097152:=by unfold znu;omega
def rtm (y:List Int) (i l j:Nat):Int:=tS j l * znu (zh y (8 * i+j))
def zkB (y:List Int) (i l:Nat):Int:=zfB (rtm y i l) 8
theorem zkA (y:List Int) (i l j:Nat): -58183385088≤rtm y i l j∧rtm y i l j≤58183385088:=zgN (zn7 j l) (zsy _)
theorem zrk (y:List Int) (i l:Nat): -465467080704≤zkB y i l∧zkB y i l≤465467080704:=by
 have:=zfK (zkA y i l) 8
 unfold zkB
 omega
def ctm (y:List Int) (k l i:Nat):Int:=tS i k * zkB y i l
theorem zll (y:List Int) (k l i:Nat): -12913918687051776≤ctm y k l i∧ctm y k l i≤12913918687051776:=zgN (zn7 i k) (zrk _ _ _)
def zlm (y:List Int) (k l:Nat):Int:=zfB (ctm y k l) 8
theorem zmC (y:List Int) (k l:Nat): -103311349496414208≤zlm y k l∧zlm y k l≤103311349496414208:=by
 have:=zfK (zll y k l) 8
 unfold zlm
 omega
def nst (s:Int):Int:=(2 * s+547363225600) / 1094726451200
def inv (y:List Int):List Int:=rgI 64 fun p=>nst (zlm y (p / 8) (p%8))
theorem zuA (y:List Int) (k:Nat): -200000≤zh (inv y) k∧zh (inv y) k≤200000:=by
 by_cases h:k<64
 ·rw [inv,zbN _ h]
  have:=zmC y (k / 8) (k%8)
  unfold nst
  omega
 ·have hl:(inv y).length=64:=zbt _ _
  unfold zh
  rw [List.getD_eq_getElem?_getD,List.getElem?_eq_none (by omega)]
  simp
theorem flr (a b:Int) (hb:0<b):(if a.tmod b<0 then a.tdiv b - 1 else a.tdiv b)=a / b:=by
 have h1:=Int.tdiv_eq_ediv (a:=a) (b:=b)
 have h2:=Int.tmod_eq_emod (a:=a) (b:=b)
 have h3:=Int.emod_nonneg a (by omega:b≠0)
 have h4:=Int.emod_lt_of_pos a hb
 have hs:b.sign=1:=Int.sign_eq_one_of_pos hb
 have hn:(b.natAbs:Int)=b:=by omega
 rw [h1,h2,hs]
 by_cases hc:0≤a∨b ∣ a
 ·simp only [if_pos hc];rw [if_neg (by omega)];omega
 ·simp only [if_neg hc];rw [if_pos (by omega)];omega
def zzL:List Int:=[0,1,8,16,9,2,3,10,17,24,32,25,18,11,4,5,12,19,26,33,40,48,41,34,27,20,13,6,7,14,21,28,35,42,49,56,57,50,43,36,29,22,15,23,30,37,44,51,58,59,52,45,38,31,39,46,53,60,61,54,47,55,62,63]
def alL:List Int:=[0,8,16,24,1,9,2,10,17,25,32,40,48,56,57,49,41,33,26,18,3,11,4,12,19,27,34,42,50,58,35,43,51,59,20,28,5,13,6,14,21,29,36,44,52,60,37,45,53,61,22,30,7,15,23,31,38,46,54,62,39,47,55,63]
def sca (al:Bool):List Int:=if al then alL else zzL
theorem zrj (al:Bool):(sca al).length=64:=by cases al<;>rfl
theorem ztZ (al:Bool) (i:Nat):0≤zh (sca al) i∧zh (sca al) i≤63:=by
 have h:∀ l:List Int,(∀ x∈l,0≤x∧x≤63)→0≤zh l i∧zh l i≤63:=fun l h=>by
  unfold zh
  by_cases hi:i<l.length
  ·rw [List.getD_eq_getElem?_getD,List.getElem?_eq_getElem hi];exact h _ (List.getElem_mem hi)
  ·rw [List.getD_eq_getElem?_getD,List.getElem?_eq_none (by omega)];simp
 cases al<;>exact h _ (by decide)
def frn (l s:List Int):Nat→List Int
 | 0=>List.replicate 64 0
 | n+1=>(frn l s n).set (zh s n).toNat (zh l n)
theorem zfT (l s:List Int):∀ n,(frn l s n).length=64
 | 0=>by simp [frn]
 | n+1=>by rw [frn,List.length_set,zfT l s n]
def frs (l:List Int) (al:Bool):List Int:=frn l (sca al) 64
theorem zmj {l s:List Int} {P:Int→Prop} (h0:P 0) (h:∀ i,P (zh l i)):∀ n,∀ x∈frn l s n,P x
 | 0=>fun x hx=>by rw [(List.mem_replicate.1 hx).2];exact h0
 | n+1=>fun x hx=>by
  rcases List.mem_or_eq_of_mem_set hx with h1|h1
  ·exact zmj h0 h n x h1
  ·exact h1▸h n
def gnL:List Int:=[32,34,25,34,32,34,25,34,34,36,27,36,34,36,27,36,25,27,20,27,25,27,20,27,34,36,27,36,34,36,27,36,32,34,25,34,32,34,25,34,34,36,27,36,34,36,27,36,25,27,20,27,25,27,20,27,34,36,27,36,34,36,27,36]
theorem ztj (k:Nat):0≤zh gnL k∧zh gnL k≤36:=by
 by_cases hi:k<64
 ·have:∀ k,k<64→0≤zh gnL k∧zh gnL k≤36:=by decide
  exact this k hi
 ·unfold zh;rw [List.getD_eq_getElem?_getD,List.getElem?_eq_none (by show 64≤k;omega)];simp
def dqz (l:List Int) (m:List UInt8) (q:Int):List Int:=rgI 64 fun k=>zh l k * (byt m k * q * zh gnL k)
def bfr (n:Nat) (fd:Bool):Nat:=if 4≤n then 0 else n%2 * 8+n / 2 * (if fd then 16 else 128)
def bst (n:Nat) (fd:Bool):Nat:=if 4≤n then 8 else if fd then 32 else 16
def bps (n:Nat) (fd:Bool) (k:Nat):Nat:=bfr n fd+k / 8 * bst n fd+k%8
def bln (n:Nat):Nat:=if 4≤n then 64 else 256
theorem znw {n:Nat} {fd:Bool} (hn:n<6):∀ k,k<8→bfr n fd+k * bst n fd+8≤bln n:=fun k hk=>by
 have:n=0∨n=1∨n=2∨n=3∨n=4∨n=5:=by omega
 unfold bfr bst bln
 rcases this with rfl|rfl|rfl|rfl|rfl|rfl<;>cases fd<;>simp<;>omega
theorem zqy {n:Nat} {fd:Bool} (hn:n<6) {k:Nat} (hk:k<64):bps n fd k<bln n:=by
 have:=znw (fd:=fd) hn (k / 8) (by omega)
 unfold bps
 omega
theorem zsC {n:Nat} {fd:Bool} {k j:Nat} (h:bps n fd k=bps n fd j):k=j:=by
 unfold bps bfr bst at h
 by_cases hn:4≤n
 ·simp only [if_pos hn] at h;omega
 ·simp only [if_neg hn] at h
  cases fd
  ·simp only [Bool.false_eq_true,if_false] at h;omega
  ·simp only [if_true] at h;omega
def blk (p:List UInt8) (n:Nat) (fd:Bool):List Int:=rgI 64 fun k=>byt p (bps n fd k)
def clp (v:Int):Int:=max 0 (min v 255)
theorem zg5 (v:Int):0≤clp v∧clp v≤255:=by unfold clp;omega
def zeh (p:List UInt8) (n:Nat) (fd:Bool) (x:List Int):List UInt8:=pst p (bfr n fd) (bst n fd) 8 (rgB 64 fun k=>clp (zh x k)) 8
theorem zgo {p:List UInt8} {n:Nat} {fd:Bool} {x:List Int} (hn:n<6) (hp:p.length=bln n):(zeh p n fd x).length=p.length:=
 zax (m:=8) (by rw [zcO]) 8 (by omega) fun k hk=>by rw [hp];exact znw hn k hk
def sst (p:List UInt8) (n:Nat) (fd:Bool) (x:List Int):Nat→List UInt8
 | 0=>p
 | m+1=>(sst p n fd x m).set (bps n fd m) (u8 (clp (zh x m)))
theorem zdB (p:List UInt8) (n:Nat) (fd:Bool) (x:List Int):∀ m,(sst p n fd x m).length=p.length
 | 0=>rfl
 | m+1=>by rw [sst,List.length_set,zdB p n fd x m]
theorem zog {p:List UInt8} {n:Nat} {fd:Bool} {x:List Int} (hn:n<6) (hp:p.length=bln n):∀ m,m≤64→(∀ k,k<m→byt (sst p n fd x m) (bps n fd k)=clp (zh x k))∧∀ i,(∀ k,k<m→bps n fd k≠i)→byt (sst p n fd x m) i=byt p i
 | 0,_=>⟨fun k hk=>by omega,fun i _=>rfl⟩
 | m+1,hm=>by
  obtain ⟨ih1,ih2⟩:=zog (x:=x) hn hp m (by omega)
  have hl:bps n fd m<(sst p n fd x m).length:=by rw [zdB,hp];exact zqy hn (by omega)
  refine ⟨fun k hk=> ?_,fun i hi=> ?_⟩
  ·rw [sst,zf2 _ _ _ _ hl]
   by_cases hkm:bps n fd k=bps n fd m
   ·rw [if_pos hkm,zsC hkm,zeK (zg5 _)]
   ·rw [if_neg hkm,ih1 k (by have:k≠m:=fun e=>hkm (by rw [e]);omega)]
  ·rw [sst,zf2 _ _ _ _ hl,if_neg fun e=>hi m (by omega) e.symm,ih2 i fun k hk=>hi k (by omega)]
theorem zji {p:List UInt8} {n:Nat} {fd:Bool} {x:List Int} (hn:n<6) (hp:p.length=bln n):sst p n fd x 64=zeh p n fd x:=by
 have hz:(rgB 64 fun k=>clp (zh x k)).length=8 * 8:=zcO _ _
 have hfit:∀ k,k<8→bfr n fd+k * bst n fd+8≤p.length:=fun k hk=>by rw [hp];exact znw hn k hk
 have hws:8≤bst n fd:=by unfold bst;split<;>(try split)<;>omega
 obtain ⟨h1,h2⟩:=zog (x:=x) (fd:=fd) hn hp 64 (by omega)
 apply zmG
 ·rw [zdB,zgo hn hp]
 intro i _
 by_cases hi:∃ k,k<64∧bps n fd k=i
 ·obtain ⟨k,hk,rfl⟩:=hi
  rw [h1 k hk,zeh,bps,zfM hz hws 8 (by omega) hfit (k / 8) (k%8) (by omega) (by omega),show k / 8 * 8+k%8=k by omega,zkD (fun k=>clp (zh x k)) hk (zg5 _)]
 ·have hm:∀ k,k<64→bps n fd k≠i:=fun k hk e=>hi ⟨k,hk,e⟩
  rw [h2 i hm,zeh,zgy hz 8 (by omega) hfit]
  intro j hj hc
  apply hm (8 * j+(i - (bfr n fd+j * bst n fd))) (by omega)
  unfold bps
  rw [show (8 * j+(i - (bfr n fd+j * bst n fd))) / 8=j by omega]
  omega
theorem zst {p:List UInt8} {n:Nat} {fd:Bool} (hn:n<6) (hp:p.length=bln n) {k:Nat} (hk:k<64):byt (ctl p (bfr n fd) (bst n fd) 8 8) k=zh (blk p n fd) k:=by
 have h:=ziO p (bfr n fd) (bst n fd) 8 8 (fun k hk=>by rw [hp];exact znw hn k hk) (k / 8) (k%8) (by omega) (by omega)
 rw [show k / 8 * 8+k%8=k by omega] at h
 rw [h,blk,zbN _ hk,bps]
def clm (i n:Int):Int:=max 0 (min i (n - 1))
def smp (p:List UInt8) (W R c r:Int):Int:=byt p (clm r R * W+clm c W).toNat
theorem zh0 (p:List UInt8) (W R c r:Int):0≤smp p W R c r∧smp p W R c r≤255:=zaa _ _
theorem zu2 {i n:Int} (h:1≤n):0≤clm i n∧clm i n≤n - 1:=by unfold clm;omega
def pxl (p:List UInt8) (W R x y vx vy:Int):Int:=
 (smp p W R (x+vx / 2) (y+vy / 2)+smp p W R (x+vx / 2+vx%2) (y+vy / 2)+smp p W R (x+vx / 2) (y+vy / 2+vy%2)+smp p W R (x+vx / 2+vx%2) (y+vy / 2+vy%2)+2) / 4
theorem zoR (p:List UInt8) (W R x y vx vy:Int):0≤pxl p W R x y vx vy∧pxl p W R x y vx vy≤255:=by
 have h1:=zh0 p W R (x+vx / 2) (y+vy / 2)
 have h2:=zh0 p W R (x+vx / 2+vx%2) (y+vy / 2)
 have h3:=zh0 p W R (x+vx / 2) (y+vy / 2+vy%2)
 have h4:=zh0 p W R (x+vx / 2+vx%2) (y+vy / 2+vy%2)
 unfold pxl
 omega
def prd (p:List UInt8) (W R x y:Int) (w h:Nat) (vx vy:Int):List UInt8:=rgB (w * h) fun k=>pxl p W R (x+((k%w:Nat):Int)) (y+((k / w:Nat):Int)) vx vy
theorem zak (p:List UInt8) (W R x y:Int) (w h:Nat) (vx vy:Int):(prd p W R x y w h vx vy).length=w * h:=zcO _ _
theorem zoX (p:List UInt8) (W R x y:Int) (w h:Nat) (vx vy:Int) {k:Nat} (hk:k<w * h):byt (prd p W R x y w h vx vy) k=pxl p W R (x+((k%w:Nat):Int)) (y+((k / w:Nat):Int)) vx vy:=zkD (n:=w * h) _ hk (zoR _ _ _ _ _ _ _)
def wov (a b:List UInt8) (w r:Nat):List UInt8:=((List.range r).map fun k=>(a.drop (k * w)).take w++(b.drop (k * w)).take w).flatten
theorem zi7 (a b:List UInt8) (w r:Nat):wov a b w (r+1)=wov a b w r++((a.drop (r * w)).take w++(b.drop (r * w)).take w):=by simp [wov,List.range_succ]
theorem za0 {a b:List UInt8} {w m:Nat} (ha:a.length=m * w) (hb:b.length=m * w):∀ r,r≤m→(wov a b w r).length=r * (2 * w)
 | 0,_=>by simp [wov]
 | r+1,hr=>by
  rw [zi7,List.length_append,za0 ha hb r (by omega),List.length_append,zbU ha (show r<m by omega),zbU hb (show r<m by omega),Nat.succ_mul r (2 * w)]
  omega
theorem zdX {a b:List UInt8} {w m:Nat} (ha:a.length=m * w) (hb:b.length=m * w):∀ r,r≤m→∀ j c,j<r→c<w→byt (wov a b w r) (j * (2 * w)+c)=byt a (j * w+c)∧byt (wov a b w r) (j * (2 * w)+w+c)=byt b (j * w+c)
 | 0,_,j,c,hj,_=>by omega
 | r+1,hr,j,c,hj,hc=>by
  have hl:=za0 ha hb r (by omega)
  have l1:=zbU ha (show r<m by omega)
  have l2:=zbU hb (show r<m by omega)
  rw [zi7]
  by_cases hjr:j=r
  ·subst hjr
   refine ⟨?_,?_⟩
   ·rw [zb2 (by omega),hl,zb3 (by omega),zdw (by omega),zdx];congr 1;omega
   ·rw [zb2 (by omega),hl,zb2 (by omega),zdw (by omega),zdx,l1];congr 1;omega
  ·have h1:(j+1) * (2 * w)≤r * (2 * w):=Nat.mul_le_mul_right _ (by omega)
   rw [Nat.succ_mul] at h1
   obtain ⟨i1,i2⟩:=zdX ha hb r (by omega) j c (by omega) hc
   rw [zb3 (by omega),zb3 (by omega)]
   exact ⟨i1,i2⟩
theorem zib {a b z:List UInt8} {w m:Nat} (ha:a.length=m * w) (hb:b.length=m * w) (hz:z.length=m * (2 * w)):pst (pst z 0 (2 * w) w a m) w (2 * w) w b m=wov a b w m:=by
 have f0:∀ k,k<m→0+k * (2 * w)+w≤z.length:=fun k hk=>by
  have h1:(k+1) * (2 * w)≤m * (2 * w):=Nat.mul_le_mul_right _ (by omega)
  rw [Nat.succ_mul] at h1
  omega
 have l1:(pst z 0 (2 * w) w a m).length=z.length:=zax ha m (by omega) f0
 have f1:∀ k,k<m→w+k * (2 * w)+w≤(pst z 0 (2 * w) w a m).length:=fun k hk=>by
  have h1:(k+1) * (2 * w)≤m * (2 * w):=Nat.mul_le_mul_right _ (by omega)
  rw [Nat.succ_mul] at h1
  omega
 apply zmG
 ·rw [zax hb m (by omega) f1,l1,hz,za0 ha hb m (by omega)]
 intro i hi
 rw [zax hb m (by omega) f1,l1,hz] at hi
 have hw:0<w:=by
  rcases Nat.eq_zero_or_pos w with h|h
  ·subst h;simp at hi
  ·exact h
 obtain ⟨j,e,he,rfl⟩:∃ j e,e<2 * w∧i=j * (2 * w)+e:=⟨i / (2 * w),i%(2 * w),Nat.mod_lt _ (by omega),by rw [Nat.mul_comm];exact (Nat.div_add_mod _ _).symm⟩
 have hj:j<m:=by
  rcases Nat.lt_or_ge j m with h|h
  ·exact h
  ·have:=Nat.mul_le_mul_right (2 * w) h;omega
 by_cases hew:e<w
 ·rw [zgy hb m (by omega) f1,(zdX ha hb m (by omega) j e hj hew).1]
  ·have:=zfM (p:=z) (a:=0) (s:=2 * w) ha (by omega) m (by omega) f0 j e hj hew
   rw [Nat.zero_add] at this
   exact this
  ·intro k hk hc
   rcases Nat.lt_or_ge k j with h|h
   ·have h1:(k+1) * (2 * w)≤j * (2 * w):=Nat.mul_le_mul_right _ (by omega)
    rw [Nat.succ_mul] at h1
    omega
   ·have h1:j * (2 * w)≤k * (2 * w):=Nat.mul_le_mul_right _ (by omega)
    omega
 ·obtain ⟨c,rfl⟩:∃ c,e=w+c:=⟨e - w,by omega⟩
  have h1:=(zdX ha hb m (by omega) j c hj (by omega)).2
  have h2:=zfM (p:=pst z 0 (2 * w) w a m) (a:=w) (s:=2 * w) hb (by omega) m (by omega) f1 j c hj (by omega)
  rw [show j * (2 * w)+(w+c)=w+j * (2 * w)+c by omega,h2,←h1]
  congr 1;omega
def mnb (a b:List UInt8):List UInt8:=rgB a.length fun i=>(byt a i+byt b i+1) / 2
theorem zcS (a b:List UInt8):(mnb a b).length=a.length:=zcO _ _
theorem zps {a b:List UInt8} {i:Nat} (h:i<a.length):byt (mnb a b) i=(byt a i+byt b i+1) / 2:=by
 have h1:=zaa a i
 have h2:=zaa b i
 exact zkD _ h (by omega)
def nr (D:Int) (p q:List UInt8):Prop:=p.length=q.length∧∀ i,-D≤byt p i - byt q i∧byt p i - byt q i≤D
theorem nr.refl {D:Int} (h:0≤D) (p:List UInt8):nr D p p:=⟨rfl,fun i=>by omega⟩
theorem zmF {p:List UInt8} {i:Nat} (h:p.length≤i):byt p i=0:=by
 simp [byt,List.getD_eq_getElem?_getD,List.getElem?_eq_none h]
theorem nr.mk' {D:Int} (hD:0≤D) {p q:List UInt8} (hl:p.length=q.length) (h:∀ i,i<p.length→-D≤byt p i - byt q i∧byt p i - byt q i≤D):nr D p q:=⟨hl,fun i=>by
 by_cases hi:i<p.length
 ·exact h i hi
 ·rw [zmF (by omega),zmF (by omega)];omega⟩
theorem nr.D0 {D:Int} {p q:List UInt8} (h:nr D p q):0≤D:=by have:=h.2 0;omega
theorem nr.prd {D:Int} {p q:List UInt8} (h:nr D p q) (W R x y:Int) (w k:Nat) (vx vy:Int):nr D (prd p W R x y w k vx vy) (prd q W R x y w k vx vy):=
 nr.mk' h.D0 (by rw [zak,zak]) fun i hi=>by
  rw [zak] at hi
  rw [zoX _ _ _ _ _ _ _ _ _ hi,zoX _ _ _ _ _ _ _ _ _ hi]
  have hs:=fun c r:Int=>h.2 (clm r R * W+clm c W).toNat
  have h1:=hs (x+((i%w:Nat):Int)+vx / 2) (y+((i / w:Nat):Int)+vy / 2)
  have h2:=hs (x+((i%w:Nat):Int)+vx / 2+vx%2) (y+((i / w:Nat):Int)+vy / 2)
  have h3:=hs (x+((i%w:Nat):Int)+vx / 2) (y+((i / w:Nat):Int)+vy / 2+vy%2)
  have h4:=hs (x+((i%w:Nat):Int)+vx / 2+vx%2) (y+((i / w:Nat):Int)+vy / 2+vy%2)
  simp only [pxl,smp]
  generalize byt p _=a1 at *
  omega
theorem nr.mnb {D:Int} {p q p' q':List UInt8} (h:nr D p q) (h':nr D p' q'):nr D (mnb p p') (mnb q q'):=
 nr.mk' h.D0 (by rw [zcS,zcS,h.1]) fun i hi=>by
  rw [zcS] at hi
  rw [zps hi,zps (by rw [←h.1];exact hi)]
  have:=h.2 i
  have:=h'.2 i
  omega
theorem nr.ctl {D:Int} {p q:List UInt8} (h:nr D p q) {a s w r:Nat} (hf:∀ k,k<r→a+k * s+w≤p.length):nr D (ctl p a s w r) (ctl q a s w r):=by
 have hf':∀ k,k<r→a+k * s+w≤q.length:=fun k hk=>by rw [←h.1];exact hf k hk
 refine nr.mk' h.D0 (by rw [zaS p a s w r hf,zaS q a s w r hf']) fun i hi=> ?_
 rw [zaS p a s w r hf] at hi
 have hw:0<w:=by
  rcases Nat.eq_zero_or_pos w with h|h
  ·subst h;simp at hi
  ·exact h
 obtain ⟨j,c,hc,rfl⟩:∃ j c,c<w∧i=j * w+c:=⟨i / w,i%w,Nat.mod_lt _ hw,by rw [Nat.mul_comm];exact (Nat.div_add_mod _ _).symm⟩
 have hj:j<r:=by
  rcases Nat.lt_or_ge j r with h|h
  ·exact h
  ·have:=Nat.mul_le_mul_right w h;omega
 rw [ziO p a s w r hf j c hj hc,ziO q a s w r hf' j c hj hc]
 exact h.2 _
theorem nr.wov {D:Int} {a b a' b':List UInt8} (h:nr D a a') (h':nr D b b') {w m:Nat} (ha:a.length=m * w) (hb:b.length=m * w):nr D (wov a b w m) (wov a' b' w m):=by
 have ha':a'.length=m * w:=by rw [←h.1,ha]
 have hb':b'.length=m * w:=by rw [←h'.1,hb]
 refine nr.mk' h.D0 (by rw [za0 ha hb m (by omega),za0 ha' hb' m (by omega)]) fun i hi=> ?_
 rw [za0 ha hb m (by omega)] at hi
 have hw:0<w:=by
  rcases Nat.eq_zero_or_pos w with h|h
  ·subst h;simp at hi
  ·exact h
 obtain ⟨j,e,he,rfl⟩:∃ j e,e<2 * w∧i=j * (2 * w)+e:=⟨i / (2 * w),i%(2 * w),Nat.mod_lt _ (by omega),by rw [Nat.mul_comm];exact (Nat.div_add_mod _ _).symm⟩
 have hj:j<m:=by
  rcases Nat.lt_or_ge j m with h|h
  ·exact h
  ·have:=Nat.mul_le_mul_right (2 * w) h;omega
 by_cases hew:e<w
 ·rw [(zdX ha hb m (by omega) j e hj hew).1,(zdX ha' hb' m (by omega) j e hj hew).1]
  exact h.2 _
 ·obtain ⟨c,rfl⟩:∃ c,e=w+c:=⟨e - w,by omega⟩
  rw [←Nat.add_assoc,(zdX ha hb m (by omega) j c hj (by omega)).2,(zdX ha' hb' m (by omega) j c hj (by omega)).2]
  exact h'.2 _
theorem nr.sst {D:Int} {p q:List UInt8} {n:Nat} {fd:Bool} {x y:List Int} (h:nr D p q) (hn:n<6) (hp:p.length=bln n) (hx:∀ k,k<64→-D≤zh x k - zh y k∧zh x k - zh y k≤D):∀ m,m≤64→nr D (sst p n fd x m) (sst q n fd y m)
 | 0,_=>h
 | m+1,hm=>by
  have ih:=nr.sst (fd:=fd) h hn hp hx m (by omega)
  have l1:bps n fd m<(Sc.sst p n fd x m).length:=by rw [zdB,hp];exact zqy hn (by omega)
  have l2:bps n fd m<(Sc.sst q n fd y m).length:=by rw [←ih.1];exact l1
  refine nr.mk' h.D0 (by rw [zdB,zdB,h.1]) fun i _=> ?_
  rw [Sc.sst,Sc.sst,zf2 _ _ _ _ l1,zf2 _ _ _ _ l2]
  by_cases hi:i=bps n fd m
  ·rw [if_pos hi,if_pos hi,zeK (zg5 _),zeK (zg5 _)]
   have:=hx m (by omega)
   have:=h.D0
   unfold clp
   omega
  ·rw [if_neg hi,if_neg hi]
   exact ih.2 i
def cad (p:List UInt8) (n:Nat) (fd:Bool) (x:List Int):List UInt8:=zeh p n fd (rgI 64 fun k=>zh x k+zh (blk p n fd) k)
theorem nr.cad {D:Int} {p q:List UInt8} {n:Nat} {fd:Bool} {x:List Int} (h:nr D p q) (hn:n<6) (hp:p.length=bln n):nr D (cad p n fd x) (cad q n fd x):=by
 unfold Sc.cad
 rw [←zji hn hp,←zji hn (by rw [←h.1];exact hp)]
 refine nr.sst h hn hp (fun k hk=> ?_) 64 (by omega)
 rw [zbN _ hk,zbN _ hk,blk,blk,zbN _ hk,zbN _ hk]
 have:=h.2 (bps n fd k)
 omega
end Go.Proofs.YtjgmdlcjbgiekaaGreatDoor.Sc
