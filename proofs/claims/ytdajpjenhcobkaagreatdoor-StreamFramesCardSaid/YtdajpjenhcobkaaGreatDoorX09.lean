/-
  Parts of the proof. No condition.
-/
import Derived.Test.YtdajpjenhcobkaaGreatDoorX05
open List renaming getD_eq_getElem?_getD → qA, getElem?_eq_none → qD, getElem?_eq_getElem → qE, ext_getElem → qI, map_congr_left → qL
open Nat renaming mul_le_mul_right → qB, succ_mul → qF, eq_zero_or_pos → qG, lt_or_ge → qH, div_add_mod → qJ, mul_comm → qK
set_option linter.all false
set_option maxRecDepth 100000
set_option maxHeartbeats 32000000
namespace Go.Proofs.YtdajpjenhcobkaaGreatDoor.Sc
open Pm Ty Go.RowKit
def rgI(n:Nat)(f:Nat->Int):List Int:=(List.range n).map f
theorem zaW(n:Nat)(f:Nat->Int):(rgI n f).length=n:=by simp[rgI]
theorem zbF{n:Nat}(f:Nat->Int){i:Nat}(h:i<n):ze (rgI n f) i=f i:=by simp[rgI,ze,h]
theorem zbN{n:Nat}{f g:Nat->Int}(h:∀ i,i<n->f i=g i):rgI n f=rgI n g:=qL λi hi=>h i (List.mem_range.1 hi)
theorem zgM(n:Nat)(f:Nat->Int)(i:Nat)(v:Int):(rgI n f).set i v=rgI n λj=>if j=i then v else f j:=by
 apply qI
 .simp[rgI]
 intro j h1 h2;simp only[rgI,List.getElem_set,List.getElem_map,List.getElem_range];by_cases hj:i=j
 .rw[if_pos hj,if_pos hj.symm]
 .rw[if_neg hj,if_neg (λe=>hj e.symm)]
theorem zvI(l:List Int):rgI l.length (ze l)=l:=by
 apply qI
 .simp[rgI]
 intro j h1 h2;simp[rgI,ze,h2]
def u8(v:Int):UInt8:=UInt8.ofNat v.toNat
theorem zcN{v:Int}(h:0<=v/\v<=255):((u8 v).toNat:Int)=v:=by unfold u8;rw[UInt8.toNat_ofNat'];omega
def rgB(n:Nat)(f:Nat->Int):List UInt8:=(List.range n).map λk=>u8 (f k)
theorem zcH(n:Nat)(f:Nat->Int):(rgB n f).length=n:=by simp[rgB]
theorem zkT(n:Nat)(f:Nat->Int):rgB (n+1) f=rgB n f++[u8 (f n)]:=by simp[rgB,List.range_succ]
theorem zl7{n:Nat}(f:Nat->Int){i:Nat}(h:i<n)(hf:0<=f i/\f i<=255):byt (rgB n f) i=f i:=by simp only[byt,rgB];rw[qA,List.getElem?_map,List.getElem?_range h];exact zcN hf
theorem zs9{n:Nat}{f g:Nat->Int}(h:∀ i,i<n->f i=g i):rgB n f=rgB n g:=qL λi hi=>by rw[h i (List.mem_range.1 hi)]
theorem zdx{p q:List UInt8}(hl:p.length=q.length)(h:∀ i,i<p.length->byt p i=byt q i):p=q:=by apply qI hl;intro i h1 h2;have:=h i h1;simp only[byt,qA,qE h1,qE h2,Option.getD_some]at this;exact UInt8.toNat_inj.1 om
theorem zg5(p:List UInt8)(i j:Nat)(v:UInt8)(h:i<p.length):byt (p.set i v) j=if j=i then(v.toNat:Int)else byt p j:=by
 simp only[byt,qA,List.getElem?_set];by_cases hj:j=i
 .subst hj;simp[h]
 .rw[if_neg (λe=>hj e.symm),if_neg hj]
theorem zcm{p q:List UInt8}{i:Nat}(h:i<p.length):byt (p++q) i=byt p i:=by simp only[byt,qA,List.getElem?_append_left h]
theorem zcl{p q:List UInt8}{i:Nat}(h:p.length<=i):byt (p++q) i=byt q (i - p.length):=by simp only[byt,qA,List.getElem?_append_right h]
theorem zbj{p:List UInt8}{i n:Nat}(h:i<n):byt (p.take n) i=byt p i:=by simp only[byt,qA,List.getElem?_take,if_pos h]
theorem zb6(p:List UInt8)(i n:Nat):byt (p.drop n) i=byt p (n+i):=by simp only[byt,qA,List.getElem?_drop]
theorem zeU(p:List UInt8)(a s w:Nat):∀ r,(∀ k,k<r->a+k * s+w<=p.length)->∀ j c,j<r->c<w->byt (ctl p a s w r) (j * w+c)=byt p (a+j * s+c)
 | 0,_,j,c,hj,_=>om
 | r+1,h,j,c,hj,hc=>by
  have hr:=h r om;have hl:=zaa p a s w r λk hk=>h k om;rw[zfu];by_cases hjr:j=r
  .subst hjr;rw[zcl om,hl,show j * w+c - j * w=c from om,zbj hc,zb6]
  .have h1:j * w+w<=r * w:=by have:(j+1) * w<=r * w:=qB _ om;rwa[qF]at this
   rw[zcm om,zeU p a s w r (λk hk=>h k om) j c om hc]
def spl(p:List UInt8)(a:Nat)(z:List UInt8):List UInt8:=p.take a++(z++p.drop (a+z.length))
theorem zea{p z:List UInt8}{a:Nat}(h:a+z.length<=p.length):(spl p a z).length=p.length:=by simp[spl];omega
theorem zfM{p z:List UInt8}{a:Nat}(h:a+z.length<=p.length)(i:Nat):byt (spl p a z) i=if a<=i/\i<a+z.length then byt z (i - a)else byt p i:=by
 have hl:(p.take a).length=a:=by simp;omega
 unfold spl;by_cases h1:i<a
 .rw[zcm om,zbj h1,if_neg om]
 .rw[zcl om,hl];by_cases h2:i<a+z.length
  .rw[zcm om,if_pos ⟨om,h2⟩]
  .rw[zcl om,zb6,if_neg om];congr 1;omega
def pst(p:List UInt8)(a s w:Nat)(z:List UInt8):Nat->List UInt8
 | 0=>p
 | r+1=>spl (pst p a s w z r) (a+r * s) ((z.drop (r * w)).take w)
theorem za4{z:List UInt8}{w r j:Nat}(hz:z.length=r * w)(hj:j<r):((z.drop (j * w)).take w).length=w:=by have:(j+1) * w<=r * w:=qB _ om;rw[qF]at this;simp;omega
theorem zY{p:List UInt8}{a s w:Nat}{z:List UInt8}{m:Nat}(hz:z.length=m * w):∀ r,r<=m->(∀ k,k<r->a+k * s+w<=p.length)->(pst p a s w z r).length=p.length
 | 0,_,_=>rfl
 | r+1,hr,h=>by have ih:=zY (p:=p) (a:=a) (s:=s) hz r om λk hk=>h k om;have hl:=za4 hz (show r<m from om);have:=h r om;rw[pst,zea om,ih]
theorem zeg{p:List UInt8}{a s w:Nat}{z:List UInt8}{m:Nat}(hz:z.length=m * w)(hs:w<=s):∀ r,r<=m->(∀ k,k<r->a+k * s+w<=p.length)->∀ j c,j<r->c<w->byt (pst p a s w z r) (a+j * s+c)=byt z (j * w+c)
 | 0,_,_,j,c,hj,_=>om
 | r+1,hr,h,j,c,hj,hc=>by
  have hpl:=zY (p:=p) (a:=a) (s:=s) hz r om λk hk=>h k om;have ih:=zeg (p:=p) (a:=a) hz hs r om λk hk=>h k om;have hl:=za4 hz (show r<m from om);have:=h r om;rw[pst,zfM om];by_cases hjr:j=r
  .subst hjr;rw[if_pos om,show a+j * s+c - (a+j * s)=c from om,zbj hc,zb6]
  .obtain⟨d,rfl⟩:∃ d,r=j+1+d:=⟨r - (j+1),om⟩;have e:(j+1+d) * s=j * s+s+d * s:=by rw[Nat.add_mul,Nat.add_mul,Nat.one_mul]
   rw[if_neg om,ih j c om hc]
theorem zc1{p:List UInt8}{a s w:Nat}{z:List UInt8}{m:Nat}(hz:z.length=m * w){i:Nat}:∀ r,r<=m->(∀ k,k<r->a+k * s+w<=p.length)->(∀ j,j<r->¬(a+j * s<=i/\i<a+j * s+w))->byt (pst p a s w z r) i=byt p i
 | 0,_,_,_=>rfl
 | r+1,hr,h,hm=>by have hpl:=zY (p:=p) (a:=a) (s:=s) hz r om λk hk=>h k om;have ih:=zc1 (p:=p) (a:=a) (s:=s) hz (i:=i) r om (λk hk=>h k om) λj hj=>hm j om;have hl:=za4 hz (show r<m from om);have:=h r om;have:=hm r om;rw[pst,zfM om,if_neg om,ih]
def zce(f:Nat->Int):Nat->Int
 | 0=>0
 | n+1=>zce f n+f n
theorem zgG{f:Nat->Int}{B:Int}(h:∀ j,-B<=f j/\f j<=B):∀ n:Nat,-(n * B)<=zce f n/\zce f n<=n * B
 | 0=>by simp[zce]
 | n+1=>by
  have ih:=zgG h n;have hn:=h n;have e:((n+1:Nat):Int) * B=n * B+B:=by rw[Int.natCast_add,Int.add_mul];simp
  rw[zce,e];omega
theorem zhU{a b A B:Int}(ha: -A<=a/\a<=A)(hb: -B<=b/\b<=B): -(A * B)<=a * b/\a * b<=A * B:=by
 have h1:a.natAbs<=A.toNat:=om;have h2:b.natAbs<=B.toNat:=om;have h3:=Nat.mul_le_mul h1 h2;rw[<-Int.natAbs_mul]at h3;have h4:((A.toNat * B.toNat:Nat):Int)=A * B:=by rw[Int.natCast_mul,Int.toNat_of_nonneg om,Int.toNat_of_nonneg om]
 omega
def tmL:List Int:=[8,8,8,8,8,8,8,8,12,10,6,3,-3,-6,-10,-12,8,4,-4,-8,-8,-4,4,8,10,-3,-12,-6,6,12,3,-10,8,-8,-8,8,8,-8,-8,8,6,-12,3,10,-10,-3,12,-6,4,-8,8,-4,-4,8,-8,4,3,-6,10,-12,12,-10,6,-3]
def bas(i k:Nat):Int:=ze tmL (8 * i+k)
def nrL:List Int:=[512,578,320,578,512,578,320,578]
def msL:List Int:=[1445,1280,2312,1280,1445,1280,2312,1280]
def tS(j l:Nat):Int:=bas j l * ze msL j
theorem zhZ{l:List Int}{B:Int}(h0:0<=B)(h:∀ x∈l,-B<=x/\x<=B)(i:Nat): -B<=ze l i/\ze l i<=B:=by
 unfold ze;by_cases hi:i<l.length
 .rw[qA,qE hi];exact h _ (List.getElem_mem hi)
 .rw[qA,qD om];simp;omega
theorem zwH(i k:Nat): -12<=bas i k/\bas i k<=12:=zhZ om (by decide) _
theorem znC(i:Nat): -2312<=ze msL i/\ze msL i<=2312:=zhZ om (by decide) _
theorem zkE(j l:Nat): -27744<=tS j l/\tS j l<=27744:=zhU (zwH j l) (znC j)
def zke(v:Int):Int:=max (-2097152) (min v 2097152)
theorem zt9(v:Int): -2097152<=zke v/\zke v<=2097152:=by unfold zke;omega
def rtm(y:List Int)(i l j:Nat):Int:=tS j l * zke (ze y (8 * i+j))
def zju(y:List Int)(i l:Nat):Int:=zce (rtm y i l) 8
theorem zhz(y:List Int)(i l j:Nat): -58183385088<=rtm y i l j/\rtm y i l j<=58183385088:=zhU (zkE j l) (zt9 _)
theorem zs8(y:List Int)(i l:Nat): -465467080704<=zju y i l/\zju y i l<=465467080704:=by have:=zgG (zhz y i l) 8;unfold zju;omega
def ctm(y:List Int)(k l i:Nat):Int:=tS i k * zju y i l
theorem zh9(y:List Int)(k l i:Nat): -12913918687051776<=ctm y k l i/\ctm y k l i<=12913918687051776:=zhU (zkE i k) (zs8 _ _ _)
def zkd(y:List Int)(k l:Nat):Int:=zce (ctm y k l) 8
theorem zkc(y:List Int)(k l:Nat): -103311349496414208<=zkd y k l/\zkd y k l<=103311349496414208:=by have:=zgG (zh9 y k l) 8;unfold zkd;omega
def nst(s:Int):Int:=(2 * s+547363225600) / 1094726451200
def inv(y:List Int):List Int:=rgI 64 λp=>nst (zkd y (p / 8) (p%8))
theorem zrE(y:List Int)(k:Nat): -200000<=ze (inv y) k/\ze (inv y) k<=200000:=by
 by_cases h:k<64
 .rw[inv,zbF _ h];have:=zkc y (k / 8) (k%8);unfold nst;omega
 .have hl:(inv y).length=64:=zaW _ _;unfold ze;rw[qA,qD om];simp
theorem flr(a b:Int)(hb:0<b):(if a.tmod b<0 then a.tdiv b - 1 else a.tdiv b)=a / b:=by
 have h1:=Int.tdiv_eq_ediv (a:=a) (b:=b);have h2:=Int.tmod_eq_emod (a:=a) (b:=b);have h3:=Int.emod_nonneg a (by omega:b≠0);have h4:=Int.emod_lt_of_pos a hb;have hs:b.sign=1:=Int.sign_eq_one_of_pos hb;have hn:(b.natAbs:Int)=b:=om;rw[h1,h2,hs];by_cases hc:0<=a\/b ∣ a
 .simp only[if_pos hc];rw[if_neg om];omega
 .simp only[if_neg hc];rw[if_pos om];omega
def zzL:List Int:=[0,1,8,16,9,2,3,10,17,24,32,25,18,11,4,5,12,19,26,33,40,48,41,34,27,20,13,6,7,14,21,28,35,42,49,56,57,50,43,36,29,22,15,23,30,37,44,51,58,59,52,45,38,31,39,46,53,60,61,54,47,55,62,63]
def alL:List Int:=[0,8,16,24,1,9,2,10,17,25,32,40,48,56,57,49,41,33,26,18,3,11,4,12,19,27,34,42,50,58,35,43,51,59,20,28,5,13,6,14,21,29,36,44,52,60,37,45,53,61,22,30,7,15,23,31,38,46,54,62,39,47,55,63]
def sca(al:Bool):List Int:=if al then alL else zzL
theorem znm(al:Bool):(sca al).length=64:=by cases al<;>rfl
theorem zqj(al:Bool)(i:Nat):0<=ze (sca al) i/\ze (sca al) i<=63:=by
 have h:∀ l:List Int,(∀ x∈l,0<=x/\x<=63)->0<=ze l i/\ze l i<=63:=λl h=>by
  unfold ze;by_cases hi:i<l.length
  .rw[qA,qE hi];exact h _ (List.getElem_mem hi)
  .rw[qA,qD om];simp
 cases al<;>exact h _ (by decide)
def frn(l s:List Int):Nat->List Int
 | 0=>List.replicate 64 0
 | n+1=>(frn l s n).set (ze s n).toNat (ze l n)
theorem zeo(l s:List Int):∀ n,(frn l s n).length=64
 | 0=>by simp[frn]
 | n+1=>by rw[frn,List.length_set,zeo l s n]
def frs(l:List Int)(al:Bool):List Int:=frn l (sca al) 64
theorem znP{l s:List Int}{P:Int->Prop}(h0:P 0)(h:∀ i,P (ze l i)):∀ n,∀ x∈frn l s n,P x
 | 0=>λx hx=>by rw[(List.mem_replicate.1 hx).2];exact h0
 | n+1=>λx hx=>by
  rcases List.mem_or_eq_of_mem_set hx with h1|h1
  .exact znP h0 h n x h1
  .exact h1▸h n
def gnL:List Int:=[32,34,25,34,32,34,25,34,34,36,27,36,34,36,27,36,25,27,20,27,25,27,20,27,34,36,27,36,34,36,27,36,32,34,25,34,32,34,25,34,34,36,27,36,34,36,27,36,25,27,20,27,25,27,20,27,34,36,27,36,34,36,27,36]
theorem zuV(k:Nat):0<=ze gnL k/\ze gnL k<=36:=by
 by_cases hi:k<64
 .have:∀ k,k<64->0<=ze gnL k/\ze gnL k<=36:=by decide
  exact this k hi
 .unfold ze;rw[qA,qD (by show 64<=k;omega)];simp
def dqz(l:List Int)(m:List UInt8)(q:Int):List Int:=rgI 64 λk=>ze l k * (byt m k * q * ze gnL k)
def bfr(n:Nat)(fd:Bool):Nat:=if 4<=n then 0 else n%2 * 8+n / 2 * (if fd then 16 else 128)
def bst(n:Nat)(fd:Bool):Nat:=if 4<=n then 8 else if fd then 32 else 16
def bps(n:Nat)(fd:Bool)(k:Nat):Nat:=bfr n fd+k / 8 * bst n fd+k%8
def bln(n:Nat):Nat:=if 4<=n then 64 else 256
theorem zph{n:Nat}{fd:Bool}(hn:n<6):∀ k,k<8->bfr n fd+k * bst n fd+8<=bln n:=λk hk=>by have:n=0\/n=1\/n=2\/n=3\/n=4\/n=5:=om;unfold bfr bst bln;rcases this with rfl|rfl|rfl|rfl|rfl|rfl<;>cases fd<;>simp<;>omega
theorem zge{n:Nat}{fd:Bool}(hn:n<6){k:Nat}(hk:k<64):bps n fd k<bln n:=by have:=zph (fd:=fd) hn (k / 8) om;unfold bps;omega
theorem zud{n:Nat}{fd:Bool}{k j:Nat}(h:bps n fd k=bps n fd j):k=j:=by
 unfold bps bfr bst at h;by_cases hn:4<=n
 .simp only[if_pos hn]at h;omega
 .simp only[if_neg hn]at h;cases fd
  .simp only[Bool.false_eq_true,if_false]at h;omega
  .simp only[if_true]at h;omega
def blk(p:List UInt8)(n:Nat)(fd:Bool):List Int:=rgI 64 λk=>byt p (bps n fd k)
def clp(v:Int):Int:=max 0 (min v 255)
theorem zdw(v:Int):0<=clp v/\clp v<=255:=by unfold clp;omega
def zdh(p:List UInt8)(n:Nat)(fd:Bool)(x:List Int):List UInt8:=pst p (bfr n fd) (bst n fd) 8 (rgB 64 λk=>clp (ze x k)) 8
theorem zcq{p:List UInt8}{n:Nat}{fd:Bool}{x:List Int}(hn:n<6)(hp:p.length=bln n):(zdh p n fd x).length=p.length:=zY (m:=8) (by rw[zcH]) 8 om λk hk=>by rw[hp];exact zph hn k hk
def sst(p:List UInt8)(n:Nat)(fd:Bool)(x:List Int):Nat->List UInt8
 | 0=>p
 | m+1=>(sst p n fd x m).set (bps n fd m) (u8 (clp (ze x m)))
theorem zcf(p:List UInt8)(n:Nat)(fd:Bool)(x:List Int):∀ m,(sst p n fd x m).length=p.length
 | 0=>rfl
 | m+1=>by rw[sst,List.length_set,zcf p n fd x m]
theorem zpY{p:List UInt8}{n:Nat}{fd:Bool}{x:List Int}(hn:n<6)(hp:p.length=bln n):∀ m,m<=64->(∀ k,k<m->byt (sst p n fd x m) (bps n fd k)=clp (ze x k))/\∀ i,(∀ k,k<m->bps n fd k≠i)->byt (sst p n fd x m) i=byt p i
 | 0,_=>⟨λk hk=>om,λi _=>rfl⟩
 | m+1,hm=>by
  obtain⟨ih1,ih2⟩:=zpY (x:=x) hn hp m om;have hl:bps n fd m<(sst p n fd x m).length:=by rw[zcf,hp];exact zge hn om
  refine⟨λk hk=> ?_,λi hi=> ?_⟩
  .rw[sst,zg5 _ _ _ _ hl];by_cases hkm:bps n fd k=bps n fd m
   .rw[if_pos hkm,zud hkm,zcN (zdw _)]
   .rw[if_neg hkm,ih1 k (by have:k≠m:=λe=>hkm (by rw[e]);omega)]
  .rw[sst,zg5 _ _ _ _ hl,if_neg λe=>hi m om e.symm,ih2 i λk hk=>hi k om]
theorem zdP{p:List UInt8}{n:Nat}{fd:Bool}{x:List Int}(hn:n<6)(hp:p.length=bln n):sst p n fd x 64=zdh p n fd x:=by
 have hz:(rgB 64 λk=>clp (ze x k)).length=8 * 8:=zcH _ _;have hfit:∀ k,k<8->bfr n fd+k * bst n fd+8<=p.length:=λk hk=>by rw[hp];exact zph hn k hk
 have hws:8<=bst n fd:=by unfold bst;split<;>(try split)<;>omega
 obtain⟨h1,h2⟩:=zpY (x:=x) (fd:=fd) hn hp 64 om;apply zdx
 .rw[zcf,zcq hn hp]
 intro i _;by_cases hi:∃ k,k<64/\bps n fd k=i
 .obtain⟨k,hk,rfl⟩:=hi;rw[h1 k hk,zdh,bps,zeg hz hws 8 om hfit (k / 8) (k%8) om om,show k / 8 * 8+k%8=k from om,zl7 (λk=>clp (ze x k)) hk (zdw _)]
 .have hm:∀ k,k<64->bps n fd k≠i:=λk hk e=>hi ⟨k,hk,e⟩;rw[h2 i hm,zdh,zc1 hz 8 om hfit];intro j hj hc;apply hm (8 * j+(i - (bfr n fd+j * bst n fd))) om;unfold bps;rw[show(8 * j+(i - (bfr n fd+j * bst n fd))) / 8=j from om];omega
theorem zt6{p:List UInt8}{n:Nat}{fd:Bool}(hn:n<6)(hp:p.length=bln n){k:Nat}(hk:k<64):byt (ctl p (bfr n fd) (bst n fd) 8 8) k=ze (blk p n fd) k:=by have h:=zeU p (bfr n fd) (bst n fd) 8 8 (λk hk=>by rw[hp];exact zph hn k hk) (k / 8) (k%8) om om;rw[show k / 8 * 8+k%8=k from om]at h;rw[h,blk,zbF _ hk,bps]
def clm(i n:Int):Int:=max 0 (min i (n - 1))
def smp(p:List UInt8)(W R c r:Int):Int:=byt p (clm r R * W+clm c W).toNat
theorem zdQ(p:List UInt8)(W R c r:Int):0<=smp p W R c r/\smp p W R c r<=255:=zK _ _
theorem zwB{i n:Int}(h:1<=n):0<=clm i n/\clm i n<=n - 1:=by unfold clm;omega
def pxl(p:List UInt8)(W R x y vx vy:Int):Int:=(smp p W R (x+vx / 2) (y+vy / 2)+smp p W R (x+vx / 2+vx%2) (y+vy / 2)+smp p W R (x+vx / 2) (y+vy / 2+vy%2)+smp p W R (x+vx / 2+vx%2) (y+vy / 2+vy%2)+2) / 4
theorem zqv(p:List UInt8)(W R x y vx vy:Int):0<=pxl p W R x y vx vy/\pxl p W R x y vx vy<=255:=by have h1:=zdQ p W R (x+vx / 2) (y+vy / 2);have h2:=zdQ p W R (x+vx / 2+vx%2) (y+vy / 2);have h3:=zdQ p W R (x+vx / 2) (y+vy / 2+vy%2);have h4:=zdQ p W R (x+vx / 2+vx%2) (y+vy / 2+vy%2);unfold pxl;omega
def prd(p:List UInt8)(W R x y:Int)(w h:Nat)(vx vy:Int):List UInt8:=rgB (w * h) λk=>pxl p W R (x+((k%w:Nat):Int)) (y+((k / w:Nat):Int)) vx vy
theorem zaX(p:List UInt8)(W R x y:Int)(w h:Nat)(vx vy:Int):(prd p W R x y w h vx vy).length=w * h:=zcH _ _
theorem zqB(p:List UInt8)(W R x y:Int)(w h:Nat)(vx vy:Int){k:Nat}(hk:k<w * h):byt (prd p W R x y w h vx vy) k=pxl p W R (x+((k%w:Nat):Int)) (y+((k / w:Nat):Int)) vx vy:=zl7 (n:=w * h) _ hk (zqv _ _ _ _ _ _ _)
def wov(a b:List UInt8)(w r:Nat):List UInt8:=((List.range r).map λk=>(a.drop (k * w)).take w++(b.drop (k * w)).take w).flatten
theorem zhb(a b:List UInt8)(w r:Nat):wov a b w (r+1)=wov a b w r++((a.drop (r * w)).take w++(b.drop (r * w)).take w):=by simp[wov,List.range_succ]
theorem zap{a b:List UInt8}{w m:Nat}(ha:a.length=m * w)(hb:b.length=m * w):∀ r,r<=m->(wov a b w r).length=r * (2 * w)
 | 0,_=>by simp[wov]
 | r+1,hr=>by rw[zhb,List.length_append,zap ha hb r om,List.length_append,za4 ha (show r<m from om),za4 hb (show r<m from om),qF r (2 * w)];omega
theorem zeG{a b:List UInt8}{w m:Nat}(ha:a.length=m * w)(hb:b.length=m * w):∀ r,r<=m->∀ j c,j<r->c<w->byt (wov a b w r) (j * (2 * w)+c)=byt a (j * w+c)/\byt (wov a b w r) (j * (2 * w)+w+c)=byt b (j * w+c)
 | 0,_,j,c,hj,_=>om
 | r+1,hr,j,c,hj,hc=>by
  have hl:=zap ha hb r om;have l1:=za4 ha (show r<m from om);have l2:=za4 hb (show r<m from om);rw[zhb];by_cases hjr:j=r
  .subst hjr;refine⟨?_,?_⟩
   .rw[zcl om,hl,zcm om,zbj om,zb6];congr 1;omega
   .rw[zcl om,hl,zcl om,zbj om,zb6,l1];congr 1;omega
  .have h1:(j+1) * (2 * w)<=r * (2 * w):=qB _ om;rw[qF]at h1;obtain⟨i1,i2⟩:=zeG ha hb r om j c om hc;rw[zcm om,zcm om];exact⟨i1,i2⟩
theorem zjy{a b z:List UInt8}{w m:Nat}(ha:a.length=m * w)(hb:b.length=m * w)(hz:z.length=m * (2 * w)):pst (pst z 0 (2 * w) w a m) w (2 * w) w b m=wov a b w m:=by
 have f0:∀ k,k<m->0+k * (2 * w)+w<=z.length:=λk hk=>by have h1:(k+1) * (2 * w)<=m * (2 * w):=qB _ om;rw[qF]at h1;omega
 have l1:(pst z 0 (2 * w) w a m).length=z.length:=zY ha m om f0;have f1:∀ k,k<m->w+k * (2 * w)+w<=(pst z 0 (2 * w) w a m).length:=λk hk=>by have h1:(k+1) * (2 * w)<=m * (2 * w):=qB _ om;rw[qF]at h1;omega
 apply zdx
 .rw[zY hb m om f1,l1,hz,zap ha hb m om]
 intro i hi;rw[zY hb m om f1,l1,hz]at hi;have hw:0<w:=by
  rcases qG w with h|h
  .subst h;simp at hi
  .exact h
 obtain⟨j,e,he,rfl⟩:∃ j e,e<2 * w/\i=j * (2 * w)+e:=⟨i / (2 * w),i%(2 * w),Nat.mod_lt _ om,by rw[qK];exact(qJ _ _).symm⟩;have hj:j<m:=by
  rcases qH j m with h|h
  .exact h
  .have:=qB (2 * w) h;omega
 by_cases hew:e<w
 .rw[zc1 hb m om f1,(zeG ha hb m om j e hj hew).1]
  .have:=zeg (p:=z) (a:=0) (s:=2 * w) ha om m om f0 j e hj hew;rw[Nat.zero_add]at this;exact this
  .intro k hk hc;rcases qH k j with h|h
   .have h1:(k+1) * (2 * w)<=j * (2 * w):=qB _ om;rw[qF]at h1;omega
   .have h1:j * (2 * w)<=k * (2 * w):=qB _ om;omega
 .obtain⟨c,rfl⟩:∃ c,e=w+c:=⟨e - w,om⟩;have h1:=(zeG ha hb m om j c hj om).2;have h2:=zeg (p:=pst z 0 (2 * w) w a m) (a:=w) (s:=2 * w) hb om m om f1 j c hj om;rw[show j * (2 * w)+(w+c)=w+j * (2 * w)+c from om,h2,<-h1];congr 1;omega
def mnb(a b:List UInt8):List UInt8:=rgB a.length λi=>(byt a i+byt b i+1) / 2
theorem zdq(a b:List UInt8):(mnb a b).length=a.length:=zcH _ _
theorem zrf{a b:List UInt8}{i:Nat}(h:i<a.length):byt (mnb a b) i=(byt a i+byt b i+1) / 2:=by have h1:=zK a i;have h2:=zK b i;exact zl7 _ h om
def nr(D:Int)(p q:List UInt8):Prop:=p.length=q.length/\∀ i,-D<=byt p i - byt q i/\byt p i - byt q i<=D
theorem nr.refl{D:Int}(h:0<=D)(p:List UInt8):nr D p p:=⟨rfl,λi=>om⟩
theorem zn3{p:List UInt8}{i:Nat}(h:p.length<=i):byt p i=0:=by simp[byt,qA,qD h]
theorem nr.mk'{D:Int}(hD:0<=D){p q:List UInt8}(hl:p.length=q.length)(h:∀ i,i<p.length->-D<=byt p i - byt q i/\byt p i - byt q i<=D):nr D p q:=⟨hl,λi=>by
 by_cases hi:i<p.length
 .exact h i hi
 .rw[zn3 om,zn3 om];omega⟩
theorem nr.D0{D:Int}{p q:List UInt8}(h:nr D p q):0<=D:=by have:=h.2 0;omega
theorem nr.prd{D:Int}{p q:List UInt8}(h:nr D p q)(W R x y:Int)(w k:Nat)(vx vy:Int):nr D (prd p W R x y w k vx vy) (prd q W R x y w k vx vy):=nr.mk' h.D0 (by rw[zaX,zaX]) λi hi=>by rw[zaX]at hi;rw[zqB _ _ _ _ _ _ _ _ _ hi,zqB _ _ _ _ _ _ _ _ _ hi];have hs:=λc r:Int=>h.2 (clm r R * W+clm c W).toNat;have h1:=hs (x+((i%w:Nat):Int)+vx / 2) (y+((i / w:Nat):Int)+vy / 2);have h2:=hs (x+((i%w:Nat):Int)+vx / 2+vx%2) (y+((i / w:Nat):Int)+vy / 2);have h3:=hs (x+((i%w:Nat):Int)+vx / 2) (y+((i / w:Nat):Int)+vy / 2+vy%2);have h4:=hs (x+((i%w:Nat):Int)+vx / 2+vx%2) (y+((i / w:Nat):Int)+vy / 2+vy%2);simp only[pxl,smp];generalize byt p _=a1 at *;omega
theorem nr.mnb{D:Int}{p q p' q':List UInt8}(h:nr D p q)(h':nr D p' q'):nr D (mnb p p') (mnb q q'):=nr.mk' h.D0 (by rw[zdq,zdq,h.1]) λi hi=>by rw[zdq]at hi;rw[zrf hi,zrf (by rw[<-h.1];exact hi)];have:=h.2 i;have:=h'.2 i;omega
theorem nr.ctl{D:Int}{p q:List UInt8}(h:nr D p q){a s w r:Nat}(hf:∀ k,k<r->a+k * s+w<=p.length):nr D (ctl p a s w r) (ctl q a s w r):=by
 have hf':∀ k,k<r->a+k * s+w<=q.length:=λk hk=>by rw[<-h.1];exact hf k hk
 refine nr.mk' h.D0 (by rw[zaa p a s w r hf,zaa q a s w r hf']) λi hi=> ?_;rw[zaa p a s w r hf]at hi;have hw:0<w:=by
  rcases qG w with h|h
  .subst h;simp at hi
  .exact h
 obtain⟨j,c,hc,rfl⟩:∃ j c,c<w/\i=j * w+c:=⟨i / w,i%w,Nat.mod_lt _ hw,by rw[qK];exact(qJ _ _).symm⟩;have hj:j<r:=by
  rcases qH j r with h|h
  .exact h
  .have:=qB w h;omega
 rw[zeU p a s w r hf j c hj hc,zeU q a s w r hf' j c hj hc];exact h.2 _
theorem nr.wov{D:Int}{a b a' b':List UInt8}(h:nr D a a')(h':nr D b b'){w m:Nat}(ha:a.length=m * w)(hb:b.length=m * w):nr D (wov a b w m) (wov a' b' w m):=by
 have ha':a'.length=m * w:=by rw[<-h.1,ha]
 have hb':b'.length=m * w:=by rw[<-h'.1,hb]
 refine nr.mk' h.D0 (by rw[zap ha hb m om,zap ha' hb' m om]) λi hi=> ?_;rw[zap ha hb m om]at hi;have hw:0<w:=by
  rcases qG w with h|h
  .subst h;simp at hi
  .exact h
 obtain⟨j,e,he,rfl⟩:∃ j e,e<2 * w/\i=j * (2 * w)+e:=⟨i / (2 * w),i%(2 * w),Nat.mod_lt _ om,by rw[qK];exact(qJ _ _).symm⟩;have hj:j<m:=by
  rcases qH j m with h|h
  .exact h
  .have:=qB (2 * w) h;omega
 by_cases hew:e<w
 .rw[(zeG ha hb m om j e hj hew).1,(zeG ha' hb' m om j e hj hew).1];exact h.2 _
 .obtain⟨c,rfl⟩:∃ c,e=w+c:=⟨e - w,om⟩;rw[<-Nat.add_assoc,(zeG ha hb m om j c hj om).2,(zeG ha' hb' m om j c hj om).2];exact h'.2 _
theorem nr.sst{D:Int}{p q:List UInt8}{n:Nat}{fd:Bool}{x y:List Int}(h:nr D p q)(hn:n<6)(hp:p.length=bln n)(hx:∀ k,k<64->-D<=ze x k - ze y k/\ze x k - ze y k<=D):∀ m,m<=64->nr D (sst p n fd x m) (sst q n fd y m)
 | 0,_=>h
 | m+1,hm=>by
  have ih:=nr.sst (fd:=fd) h hn hp hx m om;have l1:bps n fd m<(Sc.sst p n fd x m).length:=by rw[zcf,hp];exact zge hn om
  have l2:bps n fd m<(Sc.sst q n fd y m).length:=by rw[<-ih.1];exact l1
  refine nr.mk' h.D0 (by rw[zcf,zcf,h.1]) λi _=> ?_;rw[Sc.sst,Sc.sst,zg5 _ _ _ _ l1,zg5 _ _ _ _ l2];by_cases hi:i=bps n fd m
  .rw[if_pos hi,if_pos hi,zcN (zdw _),zcN (zdw _)];have:=hx m om;have:=h.D0;unfold clp;omega
  .rw[if_neg hi,if_neg hi];exact ih.2 i
def cad(p:List UInt8)(n:Nat)(fd:Bool)(x:List Int):List UInt8:=zdh p n fd (rgI 64 λk=>ze x k+ze (blk p n fd) k)
theorem nr.cad{D:Int}{p q:List UInt8}{n:Nat}{fd:Bool}{x:List Int}(h:nr D p q)(hn:n<6)(hp:p.length=bln n):nr D (cad p n fd x) (cad q n fd x):=by unfold Sc.cad;rw[<-zdP hn hp,<-zdP hn (by rw[<-h.1];exact hp)];refine nr.sst h hn hp (λk hk=> ?_) 64 om;rw[zbF _ hk,zbF _ hk,blk,blk,zbF _ hk,zbF _ hk];have:=h.2 (bps n fd k);omega
end Go.Proofs.YtdajpjenhcobkaaGreatDoor.Sc
