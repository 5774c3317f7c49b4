/-
  Parts of the proof, put together in one text. No condition.
-/
import Derived.Test.YtpjlfoficnpfoaaGreatDoorS12
open Bool renaming eq_iff_iff → qE, and_eq_true → qJ, true_or → qO, false_or → qW
open List renaming getD_eq_getElem?_getD → qA, getElem?_eq_getElem → qC, getElem?_eq_none → qF, replicate → qG, getElem?_replicate → qH, ext_getElem → qI, length_append → qK, getElem?_append_right → qL, getElem?_append_left → qM, drop → qR, range_succ → qT, range → qV, getElem_replicate → qX, replicate_succ → qZ, map_congr_left → jA
open Nat renaming mul_le_mul_right → qB, succ_mul → qD, eq_zero_or_pos → qN, mul_comm → qP, lt_or_ge → qQ, add_mul → qS, div_add_mod → qU, beq → qY
namespace Go.Proofs.YtpjlfoficnpfoaaGreatDoor.Sc
set_option linter.all false
open Pm Ty Go.RowKit
theorem Rr.bind_okE{α β:Type}{x:Rr α}{f:α→Nat→Rr β}{v:β}{a:Nat}(h:x.bind f= .ok v a):∃ y a1,x= .ok y a1∧f y a1= .ok v a:=by
 cases x with
 | ok y a1=>exact⟨y,a1,rfl,h⟩
 | er e a1=>cases h
theorem zw9(s:St)(d:Nat)(x y:Int):(zcb s d x y).q=s.q:=by unfold zcb;split<;>rfl
theorem zxa(s:St)(d:Nat)(x:Int):(zgh s d x).q=s.q:=by unfold zgh;split<;>(try split)<;>rfl
theorem zqS(m:Mb)(d k:Nat)(x y:Int):(zed m d k x y).dl=m.dl:=by
 unfold zed;repeat' split
 all_goals rfl
theorem zqW(m:Mb)(d k:Nat)(x:Int):(zeS m d k x).dl=m.dl:=by
 unfold zeS;repeat' split
 all_goals rfl
theorem zqY(m:Mb)(d:Nat)(b:Bool):(zdl m d b).dl=m.dl:=by
 unfold zdl;repeat' split
 all_goals rfl
theorem ztQ{c:Cx}{q:List UInt8}{n:Nat}{m:Mb}{s:St}{d k a:Nat}{y:Mb×St}{a1:Nat}(h:zem c q n m s d k a= .ok y a1):y.1.dl=m.dl∧y.2.q=s.q:=by
 unfold zem at h;obtain⟨m',a2,h1,h⟩:=Rr.bind_okE h;obtain⟨x,a3,_,h⟩:=Rr.bind_okE h;obtain⟨z,a4,_,h⟩:=Rr.bind_okE h;injection h with h _;rw[←h];refine⟨(zqS _ _ _ _ _).trans ?_,zw9 _ _ _ _⟩;split at h1
 ·obtain⟨b,a5,_,h1⟩:=Rr.bind_okE h1;injection h1 with h1 _;rw[←h1];exact zqW _ _ _ _
 ·injection h1 with h1 _;rw[h1]
theorem znt{c:Cx}{q:List UInt8}{n d:Nat}:∀(r k:Nat) (m:Mb) (s:St) (a:Nat) {y:Mb×St} {a1:Nat},zb9 c q n d r k m s a= .ok y a1→y.1.dl=m.dl∧y.2.q=s.q
 | 0,_,m,s,a,y,a1,h=>by injection h with h _;rw[←h];exact⟨rfl,rfl⟩
 | r+1,k,m,s,a,y,a1,h=>by unfold zb9 at h;obtain⟨x,a2,h1,h⟩:=Rr.bind_okE h;obtain⟨e1,e2⟩:=ztQ h1;obtain⟨e3,e4⟩:=znt r (k+1) x.1 x.2 a2 h;exact⟨e3.trans e1,e4.trans e2⟩
theorem ztS{c:Cx}{q:List UInt8}{n:Nat}{m:Mb}{s:St}{d a:Nat}{y:Mb×St}{a1:Nat}(h:zfw c q n m s d a= .ok y a1):y.1.dl=m.dl∧y.2.q=s.q:=by
 unfold zfw at h;split at h
 ·exact znt _ _ _ _ _ h
 ·injection h with h _;rw[←h];exact⟨rfl,rfl⟩
theorem znx{c:Cx}{q:List UInt8}{n:Nat}:∀(r d:Nat) (m:Mb) (s:St) (a:Nat) {y:Mb×St} {a1:Nat},zdq c q n r d m s a= .ok y a1→y.1.dl=m.dl∧y.2.q=s.q
 | 0,_,m,s,a,y,a1,h=>by injection h with h _;rw[←h];exact⟨rfl,rfl⟩
 | r+1,d,m,s,a,y,a1,h=>by unfold zdq at h;obtain⟨x,a2,h1,h⟩:=Rr.bind_okE h;obtain⟨e1,e2⟩:=ztS h1;obtain⟨e3,e4⟩:=znx r (d+1) x.1 x.2 a2 h;exact⟨e3.trans e1,e4.trans e2⟩
theorem znv{c:Cx}{q:List UInt8}{n:Nat}{m:Mb}{s:St}{a:Nat}{y:Mb×St}{a1:Nat}(h:zfv c q n m s a= .ok y a1):y.1.dl=m.dl∧y.2.q=s.q:=by
 unfold zfv at h;split at h
 ·obtain⟨m',a2,h1,h⟩:=Rr.bind_okE h;obtain⟨e1,e2⟩:=znx _ _ _ _ _ h;refine⟨e1.trans ?_,e2⟩;split at h1
  ·obtain⟨b,a5,_,h1⟩:=Rr.bind_okE h1;injection h1 with h1 _;rw[←h1]
  ·injection h1 with h1 _;rw[h1]
 ·injection h with h _;rw[←h];exact⟨rfl,rfl⟩
theorem ztT{c:Cx}{q:List UInt8}{n:Nat}{hl:Bool}{m:Mb}{s:St}{a:Nat}{y:Mb×St}{a1:Nat}(h:zge c q n hl m s a= .ok y a1)(hm:m.dl=0)(hs:1≤s.q∧s.q≤31):y.2.q=s.q+y.1.dl∧1≤y.2.q∧y.2.q≤31:=by
 unfold zge at h;split at h
 ·obtain⟨m',a2,h1,h⟩:=Rr.bind_okE h;obtain⟨d,a3,_,h⟩:=Rr.bind_okE h;split at h
  ·rename_i hv;injection h with e _;rw[←e];simp[vqB]at hv;exact⟨rfl,hv⟩
  ·cases h
 ·injection h with e _;rw[←e];refine⟨?_,hs⟩;show s.q=s.q+m.dl;omega
theorem zny{q:List UInt8}{n:Nat}:∀(r:Nat) (m:Mb) (a:Nat) {y:Mb} {a1:Nat},zeO q n r m a= .ok y a1→y.dl=m.dl
 | 0,m,a,y,a1,h=>by
  unfold zeO at h;split at h
  ·injection h with h _;rw[h]
  ·cases h
 | r+1,m,a,y,a1,h=>by unfold zeO at h;obtain⟨b,a2,_,h⟩:=Rr.bind_okE h;exact(zny r _ a2 h).trans (zqY _ _ _)
theorem zgr{q:List UInt8}{n:Nat}:∀(r:Nat) (m:Mb) (s:St) (a:Nat) {y:Mb×St} {a1:Nat},zca q n r m s a= .ok y a1→y.1.dl=m.dl∧y.2.q=s.q
 | 0,m,s,a,y,a1,h=>by injection h with h _;rw[←h];exact⟨rfl,rfl⟩
 | r+1,m,s,a,y,a1,h=>by
  unfold zca at h;split at h
  ·split at h
   ·obtain⟨l,a2,_,h⟩:=Rr.bind_okE h;split at h
    ·cases h
    ·obtain⟨e1,e2⟩:=zgr r _ s a2 h;exact⟨e1,e2⟩
   ·obtain⟨d,a2,_,h⟩:=Rr.bind_okE h;obtain⟨l,a3,_,h⟩:=Rr.bind_okE h;obtain⟨e1,e2⟩:=zgr r _ _ a3 h;exact⟨e1,e2.trans (zxa _ _ _)⟩
  ·exact zgr r m s a h
theorem ztR{c:Cx}{q:List UInt8}{n a:Nat}{y:Mb×Bool}{a1:Nat}(h:zdx c q n a= .ok y a1):y.1.dl=0:=by
 unfold zdx at h;split at h
 ·injection h with h _;rw[←h];rfl
 ·obtain⟨v,a2,_,h⟩:=Rr.bind_okE h;repeat' split at h
  all_goals first|(cases h;done)|(cases h;rfl)
theorem zxv{c:Cx}{q:List UInt8}{n a:Nat}{s:St}{y:Mb×St}{a1:Nat}(h:zig c s q n a= .ok y a1):y.2.q=s.q+y.1.dl∧1≤y.2.q∧y.2.q≤31:=by
 unfold zig at h;split at h
 ·rename_i hv;rw[qJ]at hv;have hsq:=(znm hv.2).1;unfold mtk at h;obtain⟨x,a2,h1,h⟩:=Rr.bind_okE h;have e0:=ztR h1;unfold zma at h;obtain⟨y2,a3,h2,h⟩:=Rr.bind_okE h;obtain⟨y3,a4,h3,h⟩:=Rr.bind_okE h;obtain⟨m4,a5,h4,h⟩:=Rr.bind_okE h;obtain⟨y5,a6,h5,h⟩:=Rr.bind_okE h;obtain⟨p1,p2⟩:=znv h2;obtain⟨c1,c2⟩:=ztT h3 (p1.trans e0) (by rw[p2];exact hsq);obtain⟨l1,l2⟩:=zgr _ _ _ _ h5;have c3:m4.dl=y3.1.dl:=by
   unfold zeN at h4;split at h4
   ·exact zny _ _ _ h4
   ·injection h4 with h4 _;rw[h4]
  injection h with h _;rw[←h];have e1:(aft y5.2 y5.1.k).q=y3.2.q:=l2;dsimp only;rw[e1,l1,c3,c1,p2];rw[p2]at c1;omega
 ·cases h
def zmf:Int→List Mb→List Int
 | _,[]=>[]
 | q,m::r=>(q+m.dl)::zmf (q+m.dl) r
theorem zg1{c:Cx}{q:List UInt8}{n:Nat}:∀(r:Nat) (s:St) (a:Nat) {z:List Mb×St} {a1:Nat},slL c q n r s a= .ok z a1→z.1.length=r∧(∀ x∈zmf s.q z.1,1≤x∧x≤31)
 | 0,s,a,z,a1,h=>by
  injection h with h _;rw[←h];exact⟨rfl,fun x hx=>by cases hx⟩
 | r+1,s,a,z,a1,h=>by
  unfold slL at h;obtain⟨y,a2,h1,h⟩:=Rr.bind_okE h;obtain⟨w,a3,h2,h⟩:=Rr.bind_okE h;injection h with h _;rw[←h];obtain⟨e1,e2⟩:=zxv h1;obtain⟨l1,l2⟩:=zg1 r y.2 a2 h2;refine⟨by simp[l1],fun x hx=> ?_⟩;simp only[zmf]at hx;rw[←e1]at hx;rcases List.mem_cons.1 hx with rfl|hx
  ·exact e2
  ·exact l2 x hx
theorem zqK{c:Cx}{q:List UInt8}{n:Nat}:∀(r:Nat) (s:St) (a:Nat) {z:List Mb×St} {a1:Nat},slL c q n r s a= .ok z a1→a≤n→∀ x∈z.1,x.lv.length=384
 | 0,s,a,z,a1,h,_=>by
  injection h with h _;rw[←h];exact fun x hx=>by cases hx
 | r+1,s,a,z,a1,h,ha=>by
  unfold slL at h;obtain⟨y,a2,h1,h⟩:=Rr.bind_okE h;obtain⟨w,a3,h2,h⟩:=Rr.bind_okE h;injection h with h _;rw[←h];obtain⟨e1,e2⟩:=zrY h1 ha;intro x hx;rcases List.mem_cons.1 hx with rfl|hx
  ·exact e2
  ·exact zqK r y.2 a2 h2 e1 x hx
theorem zql{q:List UInt8}{n:Nat}{pr:Int}{most a:Nat}{x:Int}{a1:Nat}(h:tkD q n pr most a= .ok x a1):win x most=true:=by
 unfold tkD at h;obtain⟨d,a2,_,h⟩:=Rr.bind_okE h;split at h
 ·injection h with h _;rw[←h];assumption
 ·cases h
theorem zfu{c:Cx}{q:List UInt8}{n:Nat}{m:Mb}{s:St}{d k a:Nat}{y:Mb×St}{a1:Nat}(h:zem c q n m s d k a= .ok y a1):∃ p x z:Int,(p=0∨p=1)∧vrg x z=true∧y.1=zed (if(m.fp||fcx c)=true then zeS m d k p else m) d k x z:=by
 unfold zem at h;obtain⟨m',a2,h1,h⟩:=Rr.bind_okE h;obtain⟨x,a3,h2,h⟩:=Rr.bind_okE h;obtain⟨z,a4,h3,h⟩:=Rr.bind_okE h;injection h with h _;have w1:=zql h2;have w2:=zql h3;have hv:vrg x z=true:=by unfold vrg;rw[show win x 63=true from w1,show win z 63=true from w2];rfl
 split at h1
 ·rename_i hc;obtain⟨b,a5,_,h1⟩:=Rr.bind_okE h1;injection h1 with h1 _;exact⟨(b.toNat:Int),x,z,by cases b<;>simp,hv,by rw[←h,if_pos hc,h1]⟩
 ·rename_i hc;injection h1 with h1 _;exact⟨0,x,z,.inl rfl,hv,by rw[←h,if_neg hc,h1]⟩
def bmP(ua ub fp:Bool)(va vb vc vd ve vf vg vh sa sb sc sd:Int):Mb:=⟨2,ua,ub,fp,false,va,vb,vc,vd,ve,vf,vg,vh,sa,sb,sc,sd,0,false,false,false,false,false,false,zl384⟩
theorem ztG:vrg 0 0=true:=by decide
theorem zoE(c:Cx)(fp:Bool):zcB c fp false 0 0 0 0 0 0=true:=by unfold zcB;simp
theorem zcZ{c:Cx}{fp:Bool}{a b d e p q:Int}(h1:vrg a b=true)(h2:vrg d e=true)(hp:p=0∨p=1)(hq:q=0∨q=1)(h3:fp=true∨(d=0∧e=0∧q=0))(h4:fp=true∨fcx c=true∨p=0):zcB c fp true a b d e p q=true:=by unfold zcB;rw[if_pos rfl,h1,h2];simp only[Bool.true_and,qJ,Bool.or_eq_true,decide_eq_true_eq];exact⟨hp,hq,h3,h4⟩
theorem dr0{c:Cx}{q:List UInt8}{n:Nat}{ua ub fp:Bool}{s:St}{a:Nat}{y:Mb×St}{a1:Nat}(h:zfw c q n (bmP ua ub fp 0 0 0 0 0 0 0 0 0 0 0 0) s 0 a= .ok y a1):∃ va vb vc vd sa sb:Int,y.1=bmP ua ub fp va vb vc vd 0 0 0 0 sa sb 0 0∧zcB c fp ua va vb vc vd sa sb=true:=by
 unfold zfw at h;rw[show usd (bmP ua ub fp 0 0 0 0 0 0 0 0 0 0 0 0) 0=ua from rfl,show nvM (bmP ua ub fp 0 0 0 0 0 0 0 0 0 0 0 0)=if fp then 2 else 1 from rfl]at h;cases ua with
 | false=>
  rw[if_neg sp]at h;injection h with h _;exact⟨0,0,0,0,0,0,by rw[←h],zoE _ _⟩
 | true=>
  rw[if_pos rfl]at h;cases fp with
  | false=>
   rw[if_neg sp,zb9]at h;obtain⟨x,a2,h1,h⟩:=Rr.bind_okE h;rw[zb9]at h;injection h with h _;obtain⟨p,u,v,hp,hv,he⟩:=zfu h1;rw[show(bmP true ub false 0 0 0 0 0 0 0 0 0 0 0 0).fp=false from rfl,qW]at he;have hy:y.1=x.1:=by rw[←h]
   cases hf:fcx c with
   | true=>
    rw[hf,if_pos rfl]at he;exact⟨u,v,0,0,p,0,by rw[hy,he];rfl,zcZ hv ztG hp (.inl rfl) (.inr ⟨rfl,rfl,rfl⟩) (.inr (.inl hf))⟩
   | false=>
    rw[hf,if_neg sp]at he;exact⟨u,v,0,0,0,0,by rw[hy,he];rfl,zcZ hv ztG (.inl rfl) (.inl rfl) (.inr ⟨rfl,rfl,rfl⟩) (.inr (.inr rfl))⟩
  | true=>rw[if_pos rfl,zb9]at h;obtain⟨x,a2,h1,h⟩:=Rr.bind_okE h;rw[zb9]at h;obtain⟨x2,a3,h2,h⟩:=Rr.bind_okE h;rw[zb9]at h;injection h with h _;obtain⟨p,u,v,hp,hv,he⟩:=zfu h1;rw[show(bmP true ub true 0 0 0 0 0 0 0 0 0 0 0 0).fp=true from rfl,qO,if_pos rfl]at he;have he':x.1=bmP true ub true u v 0 0 0 0 0 0 p 0 0 0:=he;obtain⟨p2,u2,v2,hp2,hv2,he2⟩:=zfu h2;rw[he']at he2;rw[show(bmP true ub true u v 0 0 0 0 0 0 p 0 0 0).fp=true from rfl,qO,if_pos rfl]at he2;exact⟨u,v,u2,v2,p,p2,by rw[show y.1=x2.1 by rw[←h],he2];rfl,zcZ hv hv2 hp hp2 (.inl rfl) (.inl rfl)⟩
theorem dr1{c:Cx}{q:List UInt8}{n:Nat}{ua ub fp:Bool}{va vb vc vd sa sb:Int}{s:St}{a:Nat}{y:Mb×St}{a1:Nat}(h:zfw c q n (bmP ua ub fp va vb vc vd 0 0 0 0 sa sb 0 0) s 1 a= .ok y a1):∃ ve vf vg vh sc sd:Int,y.1=bmP ua ub fp va vb vc vd ve vf vg vh sa sb sc sd∧zcB c fp ub ve vf vg vh sc sd=true:=by
 unfold zfw at h;rw[show usd (bmP ua ub fp va vb vc vd 0 0 0 0 sa sb 0 0) 1=ub from rfl,show nvM (bmP ua ub fp va vb vc vd 0 0 0 0 sa sb 0 0)=if fp then 2 else 1 from rfl]at h;cases ub with
 | false=>
  rw[if_neg sp]at h;injection h with h _;exact⟨0,0,0,0,0,0,by rw[←h],zoE _ _⟩
 | true=>
  rw[if_pos rfl]at h;cases fp with
  | false=>
   rw[if_neg sp,zb9]at h;obtain⟨x,a2,h1,h⟩:=Rr.bind_okE h;rw[zb9]at h;injection h with h _;obtain⟨p,u,v,hp,hv,he⟩:=zfu h1;rw[show(bmP ua true false va vb vc vd 0 0 0 0 sa sb 0 0).fp=false from rfl,qW]at he;have hy:y.1=x.1:=by rw[←h]
   cases hf:fcx c with
   | true=>
    rw[hf,if_pos rfl]at he;exact⟨u,v,0,0,p,0,by rw[hy,he];rfl,zcZ hv ztG hp (.inl rfl) (.inr ⟨rfl,rfl,rfl⟩) (.inr (.inl hf))⟩
   | false=>
    rw[hf,if_neg sp]at he;exact⟨u,v,0,0,0,0,by rw[hy,he];rfl,zcZ hv ztG (.inl rfl) (.inl rfl) (.inr ⟨rfl,rfl,rfl⟩) (.inr (.inr rfl))⟩
  | true=>rw[if_pos rfl,zb9]at h;obtain⟨x,a2,h1,h⟩:=Rr.bind_okE h;rw[zb9]at h;obtain⟨x2,a3,h2,h⟩:=Rr.bind_okE h;rw[zb9]at h;injection h with h _;obtain⟨p,u,v,hp,hv,he⟩:=zfu h1;rw[show(bmP ua true true va vb vc vd 0 0 0 0 sa sb 0 0).fp=true from rfl,qO,if_pos rfl]at he;have he':x.1=bmP ua true true va vb vc vd u v 0 0 sa sb p 0:=he;obtain⟨p2,u2,v2,hp2,hv2,he2⟩:=zfu h2;rw[he']at he2;rw[show(bmP ua true true va vb vc vd u v 0 0 sa sb p 0).fp=true from rfl,qO,if_pos rfl]at he2;exact⟨u,v,u2,v2,p,p2,by rw[show y.1=x2.1 by rw[←h],he2];rfl,zcZ hv hv2 hp hp2 (.inl rfl) (.inl rfl)⟩
theorem pr_f{c:Cx}{q:List UInt8}{n:Nat}{ua ub:Bool}{s:St}{a:Nat}{y:Mb×St}{a1:Nat}(h:zfv c q n (bmP ua ub false 0 0 0 0 0 0 0 0 0 0 0 0) s a= .ok y a1):∃(fp:Bool) (va vb vc vd ve vf vg vh sa sb sc sd:Int),y.1=bmP ua ub fp va vb vc vd ve vf vg vh sa sb sc sd∧(fp=true→bcx c=true)∧zcB c fp ua va vb vc vd sa sb=true∧zcB c fp ub ve vf vg vh sc sd=true:=by
 unfold zfv at h;rw[if_pos (show(bmP ua ub false 0 0 0 0 0 0 0 0 0 0 0 0).k=2 from rfl)]at h;obtain⟨m',a2,h1,h⟩:=Rr.bind_okE h;obtain⟨fp,hm,hfp⟩:∃ fp,m'=bmP ua ub fp 0 0 0 0 0 0 0 0 0 0 0 0∧(fp=true→bcx c=true):=by
  split at h1
  ·rename_i hc;obtain⟨b,a3,_,h1⟩:=Rr.bind_okE h1;injection h1 with h1 _;exact⟨b,h1.symm,fun _=>hc⟩
  ·injection h1 with h1 _;exact⟨false,h1.symm,fun e=>by cases e⟩
 subst hm;rw[zdq]at h;obtain⟨x,a3,h2,h⟩:=Rr.bind_okE h;rw[zdq]at h;obtain⟨x2,a4,h3,h⟩:=Rr.bind_okE h;rw[zdq]at h;injection h with h _;obtain⟨va,vb,vc,vd,sa,sb,e1,d1⟩:=dr0 h2;rw[e1]at h3;obtain⟨ve,vf,vg,vh,sc,sd,e2,d2⟩:=dr1 h3;exact⟨fp,va,vb,vc,vd,ve,vf,vg,vh,sa,sb,sc,sd,by rw[show y.1=x2.1 by rw[←h],e2],hfp,d1,d2⟩
theorem ziK(l:List Int)(i j:Nat)(w:Int):zg (l.set i w) j=if i=j∧i<l.length then w else zg l j:=by
 unfold zg;rw[qA,qA,List.getElem?_set];by_cases h:i=j
 ·subst h;by_cases h2:i<l.length
  ·simp[h2]
  ·simp[h2]
 ·simp[h]
theorem zv1{q:List UInt8}{n:Nat}:∀(f p a:Nat) (l:List Int) {l':List Int} {a':Nat},tkB q n f p a l= .ok l' a'→(∀ i,win (zg l i) 4095=true)→l'.length=l.length∧∀ i,win (zg l' i) 4095=true
 | 0,p,a,l,l',a',h,hl=>by simp[tkB]at h
 | f+1,p,a,l,l',a',h,hl=>by
  simp only[tkB]at h;obtain⟨v,a1,_,h⟩:=Rr.bind_okE h;split at h
  ·injection h with h _;rw[←h];exact⟨rfl,hl⟩
  split at h
  ·cases h
  obtain⟨w,a2,_,h⟩:=Rr.bind_okE h;split at h
  ·cases h
  split at h
  ·cases h
  rename_i hw;have hw':win w 4095=true:=by simpa using hw
  obtain⟨e1,e2⟩:=zv1 f _ _ _ h (fun i=>by
   rw[ziK];split
   ·exact hw'
   ·exact hl i)
  exact⟨e1.trans sp,e2⟩
theorem zyK(i:Nat):win (zg z64 i) 4095=true:=by unfold z64 zg;rw[qA,qH];split<;>decide
theorem zqq{q:List UInt8}{n fr a:Nat}{l:List Int}{a1:Nat}(h:zfx q n fr a= .ok l a1):l.length=64∧∀ i,win (zg l i) 4095=true:=by unfold zfx at h;obtain⟨e1,e2⟩:=zv1 _ _ _ _ h zyK;exact⟨e1.trans (by simp[z64]),e2⟩
theorem zkS(m:Mb)(k:Nat)(l:List Int)(hk:k<6)(hl:l.length=64)(hm:m.lv.length=384)(i:Nat):zg (zbc m k l).lv i=if k * 64≤i∧i<k * 64+64 then zg l (i - k * 64)else zg m.lv i:=by
 unfold zbc zg;simp only[qA];have h1:(m.lv.take (k * 64)).length=k * 64:=by simp;omega
 rw[List.append_assoc];by_cases h:i<k * 64
 ·rw[qM om,List.getElem?_take,if_pos h,if_neg om]
 ·rw[qL om,h1];by_cases h2:i<k * 64+64
  ·rw[qM om,if_pos om]
  ·rw[qL om,if_neg om,List.getElem?_drop,hl];congr 2;omega
theorem zgm{lv:List Int}(hl:lv.length=384){n:Nat}(hn:n<6):zbk lv n=true↔∀ j,j<64→zg lv (n * 64+j)=0:=by
 constructor
 ·exact fun h j hj=>zp0 h hj
 ·intro h;unfold zbk;rw[beq_iff_eq];apply qI
  ·simp;omega
  intro i h1 h2;have hi:i<64:=by simpa using h2
  have:=h i hi;rw[←zne lv n i hi]at this;unfold zg at this;rw[qA,qC h1]at this;rw[qX];exact this
theorem ztC{l:List Int}(hl:l.length=64):l=z64↔∀ j,j<64→zg l j=0:=by
 constructor
 ·intro h j hj;rw[h];unfold z64 zg;rw[qA,qH,if_pos hj];rfl
 ·intro h;apply qI
  ·simp[hl,z64]
  intro i h1 h2;have:=h i om;unfold zg at this;rw[qA,qC h1]at this;simp only[z64,qX];exact this
def SameL(m m':Mb):Prop:=∃ l,m'={ m with lv:=l }
theorem SameL.refl(m:Mb):SameL m m:=⟨m.lv,rfl⟩
theorem SameL.trans{a b c:Mb}(h:SameL a b)(k:SameL b c):SameL a c:=by obtain⟨l,rfl⟩:=h;obtain⟨l',rfl⟩:=k;exact⟨l',rfl⟩
theorem SameL.set(m:Mb)(n:Nat)(l:List Int):SameL m (zbc m n l):=⟨_,rfl⟩
theorem SameL.cdl{m m':Mb}(h:SameL m m'):Sc.cdl m'=Sc.cdl m∧m'.k=m.k:=by obtain⟨l,rfl⟩:=h;exact⟨rfl,rfl⟩
theorem zsf{q:List UInt8}{n:Nat}:∀(r:Nat) (m:Mb) (s:St) (a:Nat) {y:Mb×St} {a1:Nat},zca q n r m s a= .ok y a1→r≤6→m.lv.length=384→(∀ i,win (zg m.lv i) 4095=true)→
  SameL m y.1∧y.1.lv.length=384∧(∀ i,win (zg y.1.lv i) 4095=true)∧(m.k=2→(∀ j,6 - r≤j→j<6→zbk m.lv j=true)→∀ j,j<6→zbk y.1.lv j=if 6 - r≤j then !zat (cdl m) j else zbk m.lv j)
 | 0,m,s,a,y,a1,h,hr,hl,hw=>by
  rw[zca]at h;injection h with h _;rw[←h];exact⟨.refl _,hl,hw,fun _ _ j hj=>by rw[if_neg om]⟩
 | r+1,m,s,a,y,a1,h,hr,hl,hw=>by
  rw[zca]at h;split at h
  ·rename_i hfl;split at h
   ·rename_i hk;obtain⟨l,a2,h1,h⟩:=Rr.bind_okE h;obtain⟨e1,e2⟩:=zqq h1;split at h
    ·cases h
    rename_i hz;have hz':¬ ∀ j,j<64→zg l j=0:=fun hh=>hz ((ztC e1).2 hh);have at1:=zkS m (5 - r) l om e1 hl;obtain⟨g1,g2,g3,g4⟩:=zsf r _ _ _ h om (zaW m (5 - r) l om e1 hl) (fun i=>by
     rw[at1];split
     ·exact e2 _
     ·exact hw i)
    have hs:=SameL.set m (5 - r) l;have sl:=zaW m (5 - r) l om e1 hl;have key:∀ j,j<6→j≠5 - r→zbk (zbc m (5 - r) l).lv j=zbk m.lv j:=fun j hj hne=>by
     rw[qE,zgm sl hj,zgm hl hj];constructor
     ·intro hh i hi;have:=hh i hi;rw[at1,if_neg om]at this;exact this
     ·intro hh i hi;rw[at1,if_neg om];exact hh i hi
    have key0:zbk (zbc m (5 - r) l).lv (5 - r)=false:=by rw[Bool.eq_false_iff];intro hh;apply hz';intro i hi;have:=(zgm sl om).1 hh i hi;rw[at1,if_pos om,Nat.add_sub_cancel_left]at this;exact this
    refine⟨hs.trans g1,g2,g3,fun hk2 hzj j hj=> ?_⟩;have:=g4 (hs.cdl.2.trans hk2) (fun j hj1 hj2=>by rw[key j hj2 om];exact hzj j om hj2) j hj;rw[this,hs.cdl.1];by_cases hjr:6 - r≤j
    ·rw[if_pos hjr,if_pos om]
    ·rw[if_neg hjr];by_cases h5:j=5 - r
     ·subst h5;rw[key0,if_pos om,hfl];rfl
     ·rw[key j hj h5,if_neg om]
   ·rename_i hk;obtain⟨d,a2,h1,h⟩:=Rr.bind_okE h;obtain⟨l,a3,h2,h⟩:=Rr.bind_okE h;obtain⟨e1,e2⟩:=zqq h2;have hd:win d 4095=true:=zql h1;have at1:=zkS m (5 - r) (l.set 0 d) om (by simpa using e1) hl;obtain⟨g1,g2,g3,_⟩:=zsf r _ _ _ h om (zaW m (5 - r) _ om (by simpa using e1) hl) (fun i=>by
     rw[at1];split
     ·rw[ziK];split
      ·exact hd
      ·exact e2 _
     ·exact hw i)
    exact⟨(SameL.set m (5 - r) _).trans g1,g2,g3,fun hk2=>absurd hk2 hk⟩
  ·rename_i hfl;obtain⟨g1,g2,g3,g4⟩:=zsf r _ _ _ h om hl hw;refine⟨g1,g2,g3,fun hk2 hzj j hj=> ?_⟩;rw[g4 hk2 (fun j h1 h2=>hzj j om h2) j hj];by_cases hjr:6 - r≤j
   ·rw[if_pos hjr,if_pos om]
   ·rw[if_neg hjr];by_cases h5:j=5 - r
    ·subst h5;rw[if_pos om,hzj _ om hj];simp at hfl;rw[hfl];rfl
    ·rw[if_neg om]
theorem zwi{q:List UInt8}{n:Nat}{m:Mb}(hf:∀ j,zat (cdl m) j=false):∀(r:Nat) (s:St) (a:Nat),zca q n r m s a= .ok (m,s) a
 | 0,s,a=>by rw[zca]
 | r+1,s,a=>by rw[zca,hf,if_neg sp,zwi hf r]
def SameC(m m':Mb):Prop:=∃ c0 c1 c2 c3 c4 c5:Bool,m'={ m with ca:=c0,cb:=c1,cc:=c2,cd:=c3,ce:=c4,cf:=c5 }
theorem SameC.refl(m:Mb):SameC m m:=⟨m.ca,m.cb,m.cc,m.cd,m.ce,m.cf,rfl⟩
theorem SameC.set(m:Mb)(n:Nat)(b:Bool):SameC m (zdl m n b):=by
 unfold zdl;split
 ·exact⟨b,m.cb,m.cc,m.cd,m.ce,m.cf,rfl⟩
 split
 ·exact⟨m.ca,b,m.cc,m.cd,m.ce,m.cf,rfl⟩
 split
 ·exact⟨m.ca,m.cb,b,m.cd,m.ce,m.cf,rfl⟩
 split
 ·exact⟨m.ca,m.cb,m.cc,b,m.ce,m.cf,rfl⟩
 split
 ·exact⟨m.ca,m.cb,m.cc,m.cd,b,m.cf,rfl⟩
 ·exact⟨m.ca,m.cb,m.cc,m.cd,m.ce,b,rfl⟩
theorem SameC.trans{a b c:Mb}(h:SameC a b)(k:SameC b c):SameC a c:=by obtain⟨c0,c1,c2,c3,c4,c5,rfl⟩:=h;obtain⟨d0,d1,d2,d3,d4,d5,rfl⟩:=k;exact⟨d0,d1,d2,d3,d4,d5,rfl⟩
theorem zz3{q:List UInt8}{n:Nat}:∀(r:Nat) (m:Mb) (a:Nat) {y:Mb} {a1:Nat},zeO q n r m a= .ok y a1→SameC m y∧zkp y=true
 | 0,m,a,y,a1,h=>by
  rw[zeO]at h;split at h
  ·rename_i hc;injection h with h _;rw[←h];exact⟨.refl _,hc⟩
  ·cases h
 | r+1,m,a,y,a1,h=>by rw[zeO]at h;obtain⟨b,a2,_,h⟩:=Rr.bind_okE h;obtain⟨h1,h2⟩:=zz3 r _ _ h;exact⟨(SameC.set m (5 - r) b).trans h1,h2⟩
theorem zyo{c:Cx}{q:List UInt8}{n:Nat}{hl:Bool}{m:Mb}{s:St}{a:Nat}{y:Mb×St}{a1:Nat}(h:zge c q n hl m s a= .ok y a1)(hs:1≤s.q∧s.q≤31)(hfd:m.fd=false)(hdl:m.dl=0):
  ∃(fd:Bool) (dl:Int),y.1={ m with fd:=fd,dl:=dl }∧(hl=true→(fd=true→bcx c=true)∧win dl 30=true)∧(hl=false→fd=false∧dl=0):=by
 unfold zge at h;cases hl with
 | false=>
  rw[if_neg sp]at h;injection h with h _;refine⟨false,0,?_,(fun e=>by cases e),fun _=>⟨rfl,rfl⟩⟩;rw[←h];obtain⟨k,ua,ub,fp,fd,va,vb,vc,vd,ve,vf,vg,vh,sa,sb,sc,sd,dl,ca,cb,cc,cd,ce,cf,lv⟩:=m;simp only at hfd hdl;subst hfd hdl;rfl
 | true=>
  rw[if_pos rfl]at h;obtain⟨m',a2,h1,h⟩:=Rr.bind_okE h;obtain⟨d,a3,_,h⟩:=Rr.bind_okE h;split at h
  ·rename_i hq;injection h with h _;have hd:win d 30=true:=by unfold vqB at hq;unfold win;simp only[qJ,decide_eq_true_eq]at hq ⊢;omega
   obtain⟨fd,hm,hb⟩:∃ fd,m'={ m with fd:=fd }∧(fd=true→bcx c=true):=by
    split at h1
    ·rename_i hc;obtain⟨b,a4,_,h1⟩:=Rr.bind_okE h1;injection h1 with h1 _;exact⟨b,h1.symm,fun _=>hc⟩
    ·injection h1 with h1 _;refine⟨false,?_,fun e=>by cases e⟩;rw[←h1,←hfd]
   subst hm;exact⟨fd,d,by rw[←h],fun _=>⟨hb,hd⟩,fun e=>by cases e⟩
  ·cases h
theorem zyl{q:List UInt8}{n:Nat}{hl:Bool}{m:Mb}{a:Nat}{y:Mb}{a1:Nat}(h:zeN q n hl m a= .ok y a1):(m.k=2→hl=true→SameC m y∧zkp y=true)∧(m.k≠2→y=m)∧(hl=false→y=m):=by
 unfold zeN at h;split at h
 ·rename_i hc;rw[qJ,decide_eq_true_eq]at hc;exact⟨fun _ _=>zz3 6 _ _ h,fun e=>absurd hc.1 e,fun e=>by rw[hc.2]at e;cases e⟩
 ·rename_i hc;injection h with h _;exact⟨fun e1 e2=>absurd (by rw[decide_eq_true e1,e2];rfl) hc,fun _=>h.symm,fun _=>h.symm⟩
theorem kd_f{c:Cx}{q:List UInt8}{n a:Nat}{x:Mb×Bool}{a1:Nat}(ht:1≤c.t∧c.t≤3)(h:zdx c q n a= .ok x a1):
  x=(zgj,true)∨(x=(zMb,false)∧c.t≠1)∨∃ ua ub,x.1=bmP ua ub false 0 0 0 0 0 0 0 0 0 0 0 0∧c.t≠1∧(c.t=2→ua=true∧ub=false)∧(ua=true∨ub=true):=by
 unfold zdx at h;split at h
 ·injection h with h _;exact .inl h.symm
 rename_i h1;obtain⟨v,a2,_,h⟩:=Rr.bind_okE h;obtain⟨L,hL⟩:∃ L,(if c.t=2 then 3 else 7)=L:=⟨_,rfl⟩;rw[hL]at h;split at h
 ·cases h
 rename_i h2;split at h
 ·injection h with h _;exact .inl h.symm
 rename_i h3;subst hL;split at h
 ·injection h with h _;exact .inr (.inl ⟨h.symm,h1⟩)
 rename_i h4;injection h with h _;refine .inr (.inr ⟨decide (v≤2)||decide (5≤v),decide (3≤v),by rw[←h];rfl,h1,fun h5=> ?_,?_⟩)
 ·rw[if_pos h5]at h2 h3;constructor
  ·simp;omega
  ·simp;omega
 ·by_cases h6:v≤2
  ·left;simp[h6]
  ·right;simp;omega
theorem zyI(i:Nat):win (zg zl384 i) 4095=true:=by unfold zl384 zg;rw[qA,qH];split<;>decide
theorem zl_z(j:Nat)(hj:j<6):zbk zl384 j=true:=(zgm zaV hj).2 fun i hi=>by unfold zl384 zg;rw[qA,qH];split<;>rfl
theorem zyP{c:Cx}(h:vcx c=true):1≤c.t∧c.t≤3:=by unfold vcx at h;simp only[qJ,decide_eq_true_eq]at h;exact⟨h.1,h.2.1⟩
theorem zxu{c:Cx}{q:List UInt8}{n a:Nat}{s:St}{y:Mb×St}{a1:Nat}(hv:vcx c=true)(hs:1≤s.q∧s.q≤31)(h:mtk c s q n a= .ok y a1):fmS c y.1=true:=by
 unfold mtk at h;obtain⟨x,a2,hk,h⟩:=Rr.bind_okE h;unfold zma at h;obtain⟨y1,a3,hp,h⟩:=Rr.bind_okE h;obtain⟨y2,a4,hc,h⟩:=Rr.bind_okE h;obtain⟨m3,a5,ho,h⟩:=Rr.bind_okE h;obtain⟨y4,a6,hl,h⟩:=Rr.bind_okE h;injection h with h _;have hy:y.1=y4.1:=by rw[←h]
 rw[hy];clear h hy;have hs2:1≤y1.2.q∧y1.2.q≤31:=by rw[(znv hp).2];exact hs
 unfold fmS;rw[hv,Bool.true_and];rcases kd_f (zyP hv) hk with rfl|⟨rfl,h1⟩|⟨ua,ub,e1,h1,h2,h3⟩
 ·have hp':y1.1=zgj:=by unfold zfv at hp;rw[if_neg (by decide)]at hp;injection hp with hp _;rw[←hp]
  rw[hp']at hc;obtain⟨fd,dl,e2,g1,_⟩:=zyo hc hs2 rfl rfl;obtain⟨g2,g3⟩:=g1 rfl;have e3:m3=y2.1:=(zyl ho).2.1 (by rw[e2];show(1:Int)≠2;decide);rw[e3,e2]at hl;obtain⟨⟨l,e4⟩,w1,w2,_⟩:=zsf 6 _ _ _ hl om zaV zyI;have hw:lvr l=true:=zjO fun i _=>by have:=w2 i;rw[e4]at this;exact this
  rw[e4];have z1:zI { zgj with fd:=fd,dl:=dl,lv:=l }=true:=rfl;have z2:aC { zgj with fd:=fd,dl:=dl,lv:=l }=true:=rfl;have z3:fch c { zgj with fd:=fd,dl:=dl,lv:=l }=true:=by
   unfold fch;rw[if_pos (by rfl)];show((bcx c|| !fd)&&win dl 30)=true;rw[g3];cases fd with
   | false=>simp
   | true=>rw[g2 rfl];rfl
  show(zI { zgj with fd:=fd,dl:=dl,lv:=l }&&(aC { zgj with fd:=fd,dl:=dl,lv:=l }&&(fch c { zgj with fd:=fd,dl:=dl,lv:=l }&&lvr l)))=true;rw[z1,z2,z3,hw];rfl
 ·have hp':y1.1=zMb:=by unfold zfv at hp;rw[if_neg (by decide)]at hp;injection hp with hp _;rw[←hp]
  rw[hp']at hc;obtain⟨fd,dl,e2,_,g1⟩:=zyo hc hs2 rfl rfl;obtain⟨rfl,rfl⟩:=g1 rfl;have e2':y2.1=zMb:=e2;have e3:m3=y2.1:=(zyl ho).2.2 rfl;rw[e3,e2']at hl;have hz:∀ j,zat (cdl zMb) j=false:=fun j=>by
   unfold zat cdl zMb
   match j with
   | 0=>rfl
   | 1=>rfl
   | 2=>rfl
   | 3=>rfl
   | 4=>rfl
   | 5=>rfl
   | j+6=>rfl
  rw[zwi hz]at hl;injection hl with hl _;rw[←hl,if_pos (show zMb.k=0 from rfl),decide_eq_false h1];show(!false&&(zA zMb&&(zlv zl384&&true)))=true;rw[zpW];rfl
 ·rw[e1]at hp;obtain⟨fp,va,vb,vc,vd,ve,vf,vg,vh,sa,sb,sc,sd,e2,g1,g2,g3⟩:=pr_f hp;rw[e2]at hc;obtain⟨fd,dl,e3,g4,g5⟩:=zyo hc hs2 rfl rfl;have hu:zgO c (bmP ua ub fp va vb vc vd ve vf vg vh sa sb sc sd)=false:=by
   show((decide (c.t=2)&& !(ua&& !ub))||(!ua&& !ub))=false;by_cases h5:c.t=2
   ·obtain⟨rfl,rfl⟩:=h2 h5;simp
   ·rw[decide_eq_false h5];rcases h3 with rfl|rfl<;>simp
  obtain⟨c0,c1,c2,c3,c4,c5,e4,hany⟩:∃ c0 c1 c2 c3 c4 c5:Bool,m3={ y2.1 with ca:=c0,cb:=c1,cc:=c2,cd:=c3,ce:=c4,cf:=c5 }∧zkp m3=x.2:=by
   obtain⟨q1,q2,q3⟩:=zyl ho;have hk2:y2.1.k=2:=by rw[e3];rfl
   cases hx:x.2 with
   | true=>
    obtain⟨⟨c0,c1,c2,c3,c4,c5,e⟩,q5⟩:=q1 hk2 hx;exact⟨c0,c1,c2,c3,c4,c5,e,q5⟩
   | false=>
    have e:=q3 hx;refine⟨false,false,false,false,false,false,?_,?_⟩
    ·rw[e,e3];rfl
    ·rw[e,e3];rfl
  rw[e3]at e4;rw[e4]at hl hany;obtain⟨⟨l,e5⟩,w1,w2,w3⟩:=zsf 6 _ _ _ hl om zaV zyI;have w4:=w3 rfl (fun j _ hj=>zl_z j hj);have hw:lvr l=true:=zjO fun i _=>by have:=w2 i;rw[e5]at this;exact this
  have hf:fbl [c0,c1,c2,c3,c4,c5] l=true:=zov fun j hj=>by have:=w4 j hj;rw[if_pos om,e5]at this;have t2:zbk l j= !zat [c0,c1,c2,c3,c4,c5] j:=this;rw[t2];cases zat [c0,c1,c2,c3,c4,c5] j<;>simp
  rw[e5];have hany':(c0||(c1||(c2||(c3||(c4||c5)))))=x.2:=hany;show(!(decide (c.t=1)||zgO c (bmP ua ub fp va vb vc vd ve vf vg vh sa sb sc sd))&&(!((fp&& !(bcx c))||(fd&& !(bcx c)))&&(zcB c fp ua va vb vc vd sa sb&&(zcB c fp ub ve vf vg vh sc sd&&(lvr l&&(fbl [c0,c1,c2,c3,c4,c5] l&&(if(false||(c0||(c1||(c2||(c3||(c4||c5))))))=true then win dl 30 else !fd&&decide (dl=0))))))))=true;rw[hu,decide_eq_false h1,g2,g3,hw,hf,qW,hany'];have hfp:(fp&& !(bcx c))=false:=by
   cases fp with
   | false=>rfl
   | true=>rw[g1 rfl];rfl
  rw[hfp];cases hx:x.2 with
  | true=>
   obtain⟨k1,k2⟩:=g4 hx;have hfd:(fd&& !(bcx c))=false:=by
    cases fd with
    | false=>rfl
    | true=>rw[k1 rfl];rfl
   simp[hfd,k2]
  | false=>obtain⟨rfl,rfl⟩:=g5 hx;simp
structure Fm where
 w:Int
 h:Int
 y:List UInt8
 u:List UInt8
 v:List UInt8
def fmc(f:Fm):List PV:=[.int .i64 f.w,.int .i64 f.h,.slice (bs f.y) f.y.length false,.slice (bs f.u) f.u.length false,.slice (bs f.v) f.v.length false]
def fsz(w h:Int):Bool:=decide (2≤w)&&(decide (w≤64)&&(decide (w%2=0)&&(decide (2≤h)&&(decide (h≤64)&&decide (h%2=0)))))
def fmd(f:Fm):Bool:=fsz f.w f.h&&(decide ((f.y.length:Int)=f.w * f.h)&&(decide ((f.u.length:Int)=f.w / 2 * (f.h / 2))&&decide ((f.v.length:Int)=f.w / 2 * (f.h / 2))))
def fvd(f:Fm):Bool:=fmd f&&(decide (f.w%16=0)&&decide (f.h%16=0))
theorem zde{w h:Int}(e:fsz w h=true):2≤w∧w≤64∧w%2=0∧2≤h∧h≤64∧h%2=0:=by simpa[fsz]using e
theorem zwd{a b:Int}(h:0≤a∧a≤64∧0≤b∧b≤64):0≤a * b∧a * b≤4096:=by
 refine⟨Int.mul_nonneg om om,?_⟩;calc a * b≤64 * 64:=Int.mul_le_mul om om om om
  _=4096:=by decide
theorem zjY(w ht:Int)(H:za):CallOk Tryz.prog 135 [.int .i64 w,.int .i64 ht] H (.bool (fsz w ht)) H:=by refine CallOk.go Tryz.func135 Tryz.ntmps135 Tryz.results135 ?_;(repeat'(first|refine PW.seq ?_|refine PW.skip ?_|refine PW.block ?_|((first|refine PW.rg rfl fun K hK=> ?_|refine PW.draw mix kr fun K hK=> ?_);simp(disch:=omega) only[go_sem,↓reduceIte,reduceCtorEq,zY])|((first|refine zh ?_ ?_|refine zk ?_ ?_|refine And.intro ?_ ?_)<;>intro h<;>(try simp only[nqb]at h)<;>simp(disch:=omega) only[go_sem,↓reduceIte,reduceCtorEq,zY,h])|(refine hK _ _ ?_;clear hK K)|(refine PW.cond (t:=_) rfl (fun h=> ?_) (fun h=> ?_)<;>(try(cases h;done))<;>(try simp only[nqb]at h))));all_goals((refine PW.ret ⟨_,rfl,?_⟩;first|refine .inl ⟨?_,rfl⟩|refine Fin.base (.id' ?_ (.bool _))|refine Fin.base (.id' ?_ (.int _ _)));(simp_all[fsz,slot,qY]<;>first|rfl|omega|(rw[qE];simp;done)|(rw[qE];simp;omega)))
theorem za8(f:Fm)(H:za):CallOk Tryz.prog 72 [.agg (fmc f)] H (.bool (fmd f)) H:=by
 obtain⟨w,ht,y,u,v⟩:=f;refine CallOk.body (F0:=[(0,.agg [.int .i64 w,.int .i64 ht,.slice (bs y) y.length false,.slice (bs u) u.length false,.slice (bs v) v.length false])]) Tryz.func72 rfl Tryz.ntmps72 Tryz.results72 rfl kr rfl ?_;refine PW.e ?_;cases hs:fsz w ht
 ·have hc:=fun H=>zjY w ht H;simp only[hs]at hc;(repeat refine PW.seq ?_);refine PW.rg rfl fun K hK=> ?_;simp(disch:=omega) only[go_sem,↓reduceIte,reduceCtorEq];(repeat'(first|((first|refine zh ?_ ?_|refine And.intro ?_ ?_)<;>intro h<;>(try simp only[nqb]at h)<;>simp(disch:=omega) only[go_sem,↓reduceIte,reduceCtorEq,h])|((first|refine VCx.call (hc _) rfl ?_);simp(disch:=omega) only[go_sem,↓reduceIte,reduceCtorEq])));all_goals(refine hK _ _ ?_;(refine PW.ret ⟨_,rfl,?_⟩;first|refine .inl ⟨?_,rfl⟩|refine Fin.base (.id' ?_ (.bool _))|refine Fin.base (.id' ?_ (.int _ _)));simp[fmd,hs,slot,qY])
 ·have hc:=fun H=>zjY w ht H;simp only[hs]at hc;obtain⟨g1,g2,g3,g4,g5,g6⟩:=zde hs;have m1:=zwd (a:=w) (b:=ht) om;have m2:=zwd (a:=w / 2) (b:=ht / 2) om;(repeat refine PW.seq ?_);refine PW.rg rfl fun K hK=> ?_;simp(disch:=omega) only[go_sem,↓reduceIte,reduceCtorEq];(repeat'(first|((first|refine zh ?_ ?_|refine And.intro ?_ ?_)<;>intro h<;>(try simp only[nqb]at h)<;>simp(disch:=omega) only[go_sem,↓reduceIte,reduceCtorEq,zu,h])|((first|refine VCx.call (hc _) rfl ?_);simp(disch:=omega) only[go_sem,↓reduceIte,reduceCtorEq,zu])));all_goals(refine hK _ _ ?_;clear hK hc;(refine PW.ret ⟨_,rfl,?_⟩;first|refine .inl ⟨?_,rfl⟩|refine Fin.base (.id' ?_ (.bool _))|refine Fin.base (.id' ?_ (.int _ _)));(simp_all[fmd,slot,qY]<;>first|rfl|omega|(rw[qE];simp;done)|(rw[qE];simp;omega)))
theorem zgN(f:Fm)(H:za):CallOk Tryz.prog 218 [.agg (fmc f)] H (.bool (fvd f)) H:=by
 have hc:=fun H=>za8 f H;generalize hfv:fvd f=r;obtain⟨w,ht,y,u,v⟩:=f;refine CallOk.body (F0:=[(0,.agg [.int .i64 w,.int .i64 ht,.slice (bs y) y.length false,.slice (bs u) u.length false,.slice (bs v) v.length false])]) Tryz.func218 rfl Tryz.ntmps218 Tryz.results218 rfl kr rfl ?_;refine PW.e ?_;cases hs:fmd ⟨w,ht,y,u,v⟩
 ·simp only[hs]at hc;(repeat refine PW.seq ?_);refine PW.rg rfl fun K hK=> ?_;simp(disch:=omega) only[go_sem,↓reduceIte,reduceCtorEq];(repeat'(first|((first|refine zh ?_ ?_|refine And.intro ?_ ?_)<;>intro h<;>(try simp only[nqb]at h)<;>simp(disch:=omega) only[go_sem,↓reduceIte,reduceCtorEq,h])|((first|refine VCx.call (hc _) rfl ?_);simp(disch:=omega) only[go_sem,↓reduceIte,reduceCtorEq])));all_goals(refine hK _ _ ?_;clear hK hc;(refine PW.ret ⟨_,rfl,?_⟩;first|refine .inl ⟨?_,rfl⟩|refine Fin.base (.id' ?_ (.bool _))|refine Fin.base (.id' ?_ (.int _ _)));simp[←hfv,fvd,hs,slot,qY])
 ·simp only[hs]at hc;have hz:fsz w ht=true:=by simp[fmd]at hs;exact hs.1
  obtain⟨g1,g2,g3,g4,g5,g6⟩:=zde hz;(repeat refine PW.seq ?_);refine PW.rg rfl fun K hK=> ?_;simp(disch:=omega) only[go_sem,↓reduceIte,reduceCtorEq];(repeat'(first|((first|refine zh ?_ ?_|refine And.intro ?_ ?_)<;>intro h<;>(try simp only[nqb]at h)<;>simp(disch:=omega) only[go_sem,↓reduceIte,reduceCtorEq,zY,h])|((first|refine VCx.call (hc _) rfl ?_);simp(disch:=omega) only[go_sem,↓reduceIte,reduceCtorEq,zY])));all_goals(refine hK _ _ ?_;clear hK hc;(refine PW.ret ⟨_,rfl,?_⟩;first|refine .inl ⟨?_,rfl⟩|refine Fin.base (.id' ?_ (.bool _))|refine Fin.base (.id' ?_ (.int _ _)));subst hfv;(simp_all[fvd,slot,qY]<;>first|rfl|omega|(rw[qE];simp;done)|(rw[qE];simp;omega)))
def ctl(p:List UInt8)(a s w:Nat)(r:Nat):List UInt8:=((qV r).map fun k=>(p.drop (a+k * s)).take w).flatten
theorem zhW(p:List UInt8)(a s w r:Nat):ctl p a s w (r+1)=ctl p a s w r++(p.drop (a+r * s)).take w:=by simp[ctl,qT]
theorem zba(p:List UInt8)(a s w:Nat):∀ r,(∀ k,k<r→a+k * s+w≤p.length)→(ctl p a s w r).length=r * w
 | 0,_=>by simp[ctl]
 | r+1,h=>by have:=h r om;rw[zhW,qK,zba p a s w r (fun k hk=>h k om),List.length_take,List.length_drop,qD];omega
theorem zdj(n:Nat):zaZ n [PV.int .u8 0]=bs (qG n 0):=by
 rw[ztf];induction n with
 | zero=>rfl
 | succ n ih=>rw[qZ,←ih];simp[zaZ,qZ]
theorem zka(p:List UInt8)(a s w n:Nat)(f:Bool)(H:za)(hw:w≤64)(hn:n≤64)(hp:p.length≤8192)(hfit:∀ k,k<n→a+k * s+w≤p.length)(hs:s≤200∧a≤200):
  CallOk Tryz.prog 200 [.slice (bs p) p.length f,.agg [.int .i64 (a:Int),.int .i64 (s:Int),.int .i64 (w:Int),.int .i64 (n:Int)]] H (.slice (bs (ctl p a s w n)) (n * w) false) H:=by
 have e0:(w:Int) * (n:Int)=((n * w:Nat):Int):=by rw[qP];simp
 have hbig:n * w≤4096:=Nat.mul_le_mul hn hw;refine CallOk.go Tryz.func200 Tryz.ntmps200 Tryz.results200 ?_;refine PW.e ?_;refine PW.g e0 ?_;refine PW.e ?_;refine PW.l ?_;suffices hloop:∀(r:Nat),r≤n→PL Tryz.prog _ _ [(0,.slice (bs p) p.length f),(3,.ptr H.length 0 0),(5,.msl (H.length+1) 0 0 (n * w) 1 true),(14,.int .i64 (n:Int)),(15,.int .i64 (r:Int))] (H++[⟨159,0,[.int .i64 (a:Int),.int .i64 (s:Int),.int .i64 (w:Int),.int .i64 (n:Int)]⟩,⟨5,0,bs (ctl p a s w r++qG ((n - r) * w) 0)⟩]) _ by exact PL.at [0,3,5,14,15] (hloop 0 (Nat.zero_le _)) rfl (by rw[show ctl p a s w 0=[]from rfl,List.nil_append,Nat.sub_zero,←zdj];rfl)
 intro r hr;induction hm:n - r using Nat.strongRecOn generalizing r with
 | _ m ih=>
  have hcl:=zba p a s w r (fun k hk=>hfit k om);refine PL.round ?_;refine PW.e ?_;refine PW.c (fun h=> ?_) (fun h=> ?_)
  ·have h4:r<n:=ot h;have hnext:=ih (n - (r+1)) om (r+1) om rfl;have h6:=hfit r h4;have eR:(r:Int) * (w:Int)=((r * w:Nat):Int):=by simp
   have eR1:((r:Int)+1) * (w:Int)=(((r+1) * w:Nat):Int):=by simp
   have eS:(r:Int) * (s:Int)=((r * s:Nat):Int):=by simp
   have eA:(a:Int)+((r * s:Nat):Int)=((a+r * s:Nat):Int):=by simp
   have b2:(r+1) * w≤n * w:=qB _ om;have b1:(r+1) * w=r * w+w:=by rw[qS];omega
   have e3:r * w+w - r * w=w:=om;have hbl:(ctl p a s w r++qG (m * w) 0).length=n * w:=by rw[qK,hcl,List.length_replicate,←qS,show r+m=n from om]
   have htk:List.take (p.length - (a+r * s)) (qR (a+r * s) p)=qR (a+r * s) p:=List.take_of_length_le sp;have hdl:(qR (a+r * s) p).length=p.length - (a+r * s):=List.length_drop;have hmin:min (p.length - (a+r * s)) w=w:=om;have hzl:(List.take w (qR (a+r * s) p)).length=w:=by simp;omega
   have htk1:List.take (r * w) (ctl p a s w r++qG (m * w) 0)=ctl p a s w r:=by rw[←hcl];exact List.take_left
   have htk2:qR (r * w+w) (ctl p a s w r++qG (m * w) 0)=qG ((n - (r+1)) * w) 0:=by
    rw[←hcl,List.drop_append,hcl,List.drop_of_length_le om,List.nil_append,List.drop_replicate];congr 1;have:m * w=(n - (r+1)) * w+w:=by rw[←qD];congr 1;omega
    omega
   refine PW.skip ?_;refine PW.b ?_;refine PW.e ?_;rw[b1]at eR1 b2;(repeat refine PW.seq ?_);refine PW.draw mix kr fun K hK=> ?_;simp(disch:=omega) only[go_sem,↓reduceIte,reduceCtorEq,eR,eR1,eS,eA,e3,zd,hbl,zcF,zbS,htk,hdl,hmin,hzl,htk1,htk2];refine hK _ _ ?_;clear hK K;refine PW.e ?_;rw[zhW,List.append_assoc,zF,zF]at hnext;exact PL.at [0,3,5,14,15] hnext rfl rfl
  ·have h4:r=n:=ofF h;subst h4;refine PW.exit ?_;refine PW.e ?_;refine PW.ret ⟨_,rfl,?_⟩;rw[show r - r=0 from Nat.sub_self r]at hm;subst hm;rw[Nat.zero_mul,List.replicate_zero,List.append_nil];exact Fin.base (Fz.mslC (e:=5) (xs:=bs (ctl p a s w r)) om (hp1 _ _ _ _) (by rw[zd,hcl];omega) (FzC.refl (zn _ _)))
def rgI(n:Nat)(f:Nat→Int):List Int:=(qV n).map f
theorem zbL(n:Nat)(f:Nat→Int):(rgI n f).length=n:=by simp[rgI]
theorem zb3{n:Nat}(f:Nat→Int){i:Nat}(h:i<n):zg (rgI n f) i=f i:=by simp[rgI,zg,h]
theorem zd1{n:Nat}{f g:Nat→Int}(h:∀ i,i<n→f i=g i):rgI n f=rgI n g:=jA fun i hi=>h i (List.mem_range.1 hi)
theorem zjl(n:Nat)(f:Nat→Int)(i:Nat)(v:Int):(rgI n f).set i v=rgI n fun j=>if j=i then v else f j:=by
 apply qI
 ·simp[rgI]
 intro j h1 h2;simp only[rgI,List.getElem_set,List.getElem_map,List.getElem_range];by_cases hj:i=j
 ·rw[if_pos hj,if_pos hj.symm]
 ·rw[if_neg hj,if_neg (fun e=>hj e.symm)]
theorem zxi(l:List Int):rgI l.length (zg l)=l:=by
 apply qI
 ·simp[rgI]
 intro j h1 h2;simp[rgI,zg,h2]
def u8(v:Int):UInt8:=UInt8.ofNat v.toNat
theorem zft{v:Int}(h:0≤v∧v≤255):((u8 v).toNat:Int)=v:=by unfold u8;rw[UInt8.toNat_ofNat'];omega
def rgB(n:Nat)(f:Nat→Int):List UInt8:=(qV n).map fun k=>u8 (f k)
theorem zc9(n:Nat)(f:Nat→Int):(rgB n f).length=n:=by simp[rgB]
theorem zrb(n:Nat)(f:Nat→Int):rgB (n+1) f=rgB n f++[u8 (f n)]:=by simp[rgB,qT]
theorem zmp{n:Nat}(f:Nat→Int){i:Nat}(h:i<n)(hf:0≤f i∧f i≤255):byt (rgB n f) i=f i:=by simp only[byt,rgB];rw[qA,List.getElem?_map,List.getElem?_range h];exact zft hf
theorem zud{n:Nat}{f g:Nat→Int}(h:∀ i,i<n→f i=g i):rgB n f=rgB n g:=jA fun i hi=>by rw[h i (List.mem_range.1 hi)]
theorem zoI{p q:List UInt8}(hl:p.length=q.length)(h:∀ i,i<p.length→byt p i=byt q i):p=q:=by apply qI hl;intro i h1 h2;have:=h i h1;simp only[byt,qA,qC h1,qC h2,Option.getD_some]at this;exact UInt8.toNat_inj.1 om
theorem zgE(p:List UInt8)(i j:Nat)(v:UInt8)(h:i<p.length):byt (p.set i v) j=if j=i then(v.toNat:Int)else byt p j:=by
 simp only[byt,qA,List.getElem?_set];by_cases hj:j=i
 ·subst hj;simp[h]
 ·rw[if_neg (fun e=>hj e.symm),if_neg hj]
theorem zcm{p q:List UInt8}{i:Nat}(h:i<p.length):byt (p++q) i=byt p i:=by simp only[byt,qA,qM h]
theorem zcl{p q:List UInt8}{i:Nat}(h:p.length≤i):byt (p++q) i=byt q (i - p.length):=by simp only[byt,qA,qL h]
theorem zdR{p:List UInt8}{i n:Nat}(h:i<n):byt (p.take n) i=byt p i:=by simp only[byt,qA,List.getElem?_take,if_pos h]
theorem zdS(p:List UInt8)(i n:Nat):byt (p.drop n) i=byt p (n+i):=by simp only[byt,qA,List.getElem?_drop]
theorem zkb(p:List UInt8)(a s w:Nat):∀ r,(∀ k,k<r→a+k * s+w≤p.length)→∀ j c,j<r→c<w→byt (ctl p a s w r) (j * w+c)=byt p (a+j * s+c)
 | 0,_,j,c,hj,_=>om
 | r+1,h,j,c,hj,hc=>by
  have hr:=h r om;have hl:=zba p a s w r fun k hk=>h k om;rw[zhW];by_cases hjr:j=r
  ·subst hjr;rw[zcl om,hl,show j * w+c - j * w=c from om,zdR hc,zdS]
  ·have h1:j * w+w≤r * w:=by have:(j+1) * w≤r * w:=qB _ om;rwa[qD]at this
   rw[zcm om,zkb p a s w r (fun k hk=>h k om) j c om hc]
def spl(p:List UInt8)(a:Nat)(z:List UInt8):List UInt8:=p.take a++(z++p.drop (a+z.length))
theorem zt0{p z:List UInt8}{a:Nat}(h:a+z.length≤p.length):(spl p a z).length=p.length:=by simp[spl];omega
theorem zqF{p z:List UInt8}{a:Nat}(h:a+z.length≤p.length)(i:Nat):byt (spl p a z) i=if a≤i∧i<a+z.length then byt z (i - a)else byt p i:=by
 have hl:(p.take a).length=a:=by simp;omega
 unfold spl;by_cases h1:i<a
 ·rw[zcm om,zdR h1,if_neg om]
 ·rw[zcl om,hl];by_cases h2:i<a+z.length
  ·rw[zcm om,if_pos ⟨om,h2⟩]
  ·rw[zcl om,zdS,if_neg om];congr 1;omega
def pst(p:List UInt8)(a s w:Nat)(z:List UInt8):Nat→List UInt8
 | 0=>p
 | r+1=>spl (pst p a s w z r) (a+r * s) ((z.drop (r * w)).take w)
theorem zcd{z:List UInt8}{w r j:Nat}(hz:z.length=r * w)(hj:j<r):((z.drop (j * w)).take w).length=w:=by have:(j+1) * w≤r * w:=qB _ om;rw[qD]at this;simp;omega
theorem zaH{p:List UInt8}{a s w:Nat}{z:List UInt8}{m:Nat}(hz:z.length=m * w):∀ r,r≤m→(∀ k,k<r→a+k * s+w≤p.length)→(pst p a s w z r).length=p.length
 | 0,_,_=>rfl
 | r+1,hr,h=>by have ih:=zaH (p:=p) (a:=a) (s:=s) hz r om fun k hk=>h k om;have hl:=zcd hz (show r<m from om);have:=h r om;rw[pst,zt0 om,ih]
theorem zgt{p:List UInt8}{a s w:Nat}{z:List UInt8}{m:Nat}(hz:z.length=m * w)(hs:w≤s):∀ r,r≤m→(∀ k,k<r→a+k * s+w≤p.length)→∀ j c,j<r→c<w→byt (pst p a s w z r) (a+j * s+c)=byt z (j * w+c)
 | 0,_,_,j,c,hj,_=>om
 | r+1,hr,h,j,c,hj,hc=>by
  have hpl:=zaH (p:=p) (a:=a) (s:=s) hz r om fun k hk=>h k om;have ih:=zgt (p:=p) (a:=a) hz hs r om fun k hk=>h k om;have hl:=zcd hz (show r<m from om);have:=h r om;rw[pst,zqF om];by_cases hjr:j=r
  ·subst hjr;rw[if_pos om,show a+j * s+c - (a+j * s)=c from om,zdR hc,zdS]
  ·obtain⟨d,rfl⟩:∃ d,r=j+1+d:=⟨r - (j+1),om⟩;have e:(j+1+d) * s=j * s+s+d * s:=by rw[qS,qS,Nat.one_mul]
   rw[if_neg om,ih j c om hc]
theorem zhd{p:List UInt8}{a s w:Nat}{z:List UInt8}{m:Nat}(hz:z.length=m * w){i:Nat}:∀ r,r≤m→(∀ k,k<r→a+k * s+w≤p.length)→(∀ j,j<r→¬(a+j * s≤i∧i<a+j * s+w))→byt (pst p a s w z r) i=byt p i
 | 0,_,_,_=>rfl
 | r+1,hr,h,hm=>by have hpl:=zaH (p:=p) (a:=a) (s:=s) hz r om fun k hk=>h k om;have ih:=zhd (p:=p) (a:=a) (s:=s) hz (i:=i) r om (fun k hk=>h k om) fun j hj=>hm j om;have hl:=zcd hz (show r<m from om);have:=h r om;have:=hm r om;rw[pst,zqF om,if_neg om,ih]
def zgf(f:Nat→Int):Nat→Int
 | 0=>0
 | n+1=>zgf f n+f n
theorem zgs{f:Nat→Int}{B:Int}(h:∀ j,-B≤f j∧f j≤B):∀ n:Nat,-(n * B)≤zgf f n∧zgf f n≤n * B
 | 0=>by simp[zgf]
 | n+1=>by
  have ih:=zgs h n;have hn:=h n;have e:((n+1:Nat):Int) * B=n * B+B:=by rw[Int.natCast_add,Int.add_mul];simp
  rw[zgf,e];omega
theorem zhy{a b A B:Int}(ha: -A≤a∧a≤A)(hb: -B≤b∧b≤B): -(A * B)≤a * b∧a * b≤A * B:=by
 have h1:a.natAbs≤A.toNat:=om;have h2:b.natAbs≤B.toNat:=om;have h3:=Nat.mul_le_mul h1 h2;rw[←Int.natAbs_mul]at h3;have h4:((A.toNat * B.toNat:Nat):Int)=A * B:=by rw[Int.natCast_mul,Int.toNat_of_nonneg om,Int.toNat_of_nonneg om]
 omega
def tmL:List Int:=[8,8,8,8,8,8,8,8,12,10,6,3,-3,-6,-10,-12,8,4,-4,-8,-8,-4,4,8,10,-3,-12,-6,6,12,3,-10,8,-8,-8,8,8,-8,-8,8,6,-12,3,10,-10,-3,12,-6,4,-8,8,-4,-4,8,-8,4,3,-6,10,-12,12,-10,6,-3]
def bas(i k:Nat):Int:=zg tmL (8 * i+k)
def nrL:List Int:=[512,578,320,578,512,578,320,578]
def msL:List Int:=[1445,1280,2312,1280,1445,1280,2312,1280]
def tS(j l:Nat):Int:=bas j l * zg msL j
theorem zhE{l:List Int}{B:Int}(h0:0≤B)(h:∀ x∈l,-B≤x∧x≤B)(i:Nat): -B≤zg l i∧zg l i≤B:=by
 unfold zg;by_cases hi:i<l.length
 ·rw[qA,qC hi];exact h _ (List.getElem_mem hi)
 ·rw[qA,qF om];simp;omega
theorem zyt(i k:Nat): -12≤bas i k∧bas i k≤12:=zhE om (by decide) _
theorem zwe(i:Nat): -2312≤zg msL i∧zg msL i≤2312:=zhE om (by decide) _
theorem zqt(j l:Nat): -27744≤tS j l∧tS j l≤27744:=zhy (zyt j l) (zwe j)
def zpK(v:Int):Int:=max (-2097152) (min v 2097152)
theorem zvy(v:Int): -2097152≤zpK v∧zpK v≤2097152:=by unfold zpK;omega
def rtm(y:List Int)(i l j:Nat):Int:=tS j l * zpK (zg y (8 * i+j))
def zmn(y:List Int)(i l:Nat):Int:=zgf (rtm y i l) 8
theorem zmm(y:List Int)(i l j:Nat): -58183385088≤rtm y i l j∧rtm y i l j≤58183385088:=zhy (zqt j l) (zvy _)
theorem zuc(y:List Int)(i l:Nat): -465467080704≤zmn y i l∧zmn y i l≤465467080704:=by have:=zgs (zmm y i l) 8;unfold zmn;omega
def ctm(y:List Int)(k l i:Nat):Int:=tS i k * zmn y i l
theorem zm8(y:List Int)(k l i:Nat): -12913918687051776≤ctm y k l i∧ctm y k l i≤12913918687051776:=zhy (zqt i k) (zuc _ _ _)
def zm9(y:List Int)(k l:Nat):Int:=zgf (ctm y k l) 8
theorem zoF(y:List Int)(k l:Nat): -103311349496414208≤zm9 y k l∧zm9 y k l≤103311349496414208:=by have:=zgs (zm8 y k l) 8;unfold zm9;omega
def nst(s:Int):Int:=(2 * s+547363225600) / 1094726451200
def inv(y:List Int):List Int:=rgI 64 fun p=>nst (zm9 y (p / 8) (p%8))
theorem zxS(y:List Int)(k:Nat): -200000≤zg (inv y) k∧zg (inv y) k≤200000:=by
 by_cases h:k<64
 ·rw[inv,zb3 _ h];have:=zoF y (k / 8) (k%8);unfold nst;omega
 ·have hl:(inv y).length=64:=zbL _ _;unfold zg;rw[qA,qF om];simp
theorem flr(a b:Int)(hb:0<b):(if a.tmod b<0 then a.tdiv b - 1 else a.tdiv b)=a / b:=by
 have h1:=Int.tdiv_eq_ediv (a:=a) (b:=b);have h2:=Int.tmod_eq_emod (a:=a) (b:=b);have h3:=Int.emod_nonneg a (by omega:b≠0);have h4:=Int.emod_lt_of_pos a hb;have hs:b.sign=1:=Int.sign_eq_one_of_pos hb;have hn:(b.natAbs:Int)=b:=om;rw[h1,h2,hs];by_cases hc:0≤a∨b ∣ a
 ·simp only[if_pos hc];rw[if_neg om];omega
 ·simp only[if_neg hc];rw[if_pos om];omega
def zzL:List Int:=[0,1,8,16,9,2,3,10,17,24,32,25,18,11,4,5,12,19,26,33,40,48,41,34,27,20,13,6,7,14,21,28,35,42,49,56,57,50,43,36,29,22,15,23,30,37,44,51,58,59,52,45,38,31,39,46,53,60,61,54,47,55,62,63]
def alL:List Int:=[0,8,16,24,1,9,2,10,17,25,32,40,48,56,57,49,41,33,26,18,3,11,4,12,19,27,34,42,50,58,35,43,51,59,20,28,5,13,6,14,21,29,36,44,52,60,37,45,53,61,22,30,7,15,23,31,38,46,54,62,39,47,55,63]
def sca(al:Bool):List Int:=if al then alL else zzL
theorem zt9(al:Bool):(sca al).length=64:=by cases al<;>rfl
theorem zxe(al:Bool)(i:Nat):0≤zg (sca al) i∧zg (sca al) i≤63:=by
 have h:∀ l:List Int,(∀ x∈l,0≤x∧x≤63)→0≤zg l i∧zg l i≤63:=fun l h=>by
  unfold zg;by_cases hi:i<l.length
  ·rw[qA,qC hi];exact h _ (List.getElem_mem hi)
  ·rw[qA,qF om];simp
 cases al<;>exact h _ (by decide)
def frn(l s:List Int):Nat→List Int
 | 0=>qG 64 0
 | n+1=>(frn l s n).set (zg s n).toNat (zg l n)
theorem zgx(l s:List Int):∀ n,(frn l s n).length=64
 | 0=>by simp[frn]
 | n+1=>by rw[frn,List.length_set,zgx l s n]
def frs(l:List Int)(al:Bool):List Int:=frn l (sca al) 64
theorem zok{l s:List Int}{P:Int→Prop}(h0:P 0)(h:∀ i,P (zg l i)):∀ n,∀ x∈frn l s n,P x
 | 0=>fun x hx=>by rw[(List.mem_replicate.1 hx).2];exact h0
 | n+1=>fun x hx=>by
  rcases List.mem_or_eq_of_mem_set hx with h1|h1
  ·exact zok h0 h n x h1
  ·exact h1▸h n
def gnL:List Int:=[32,34,25,34,32,34,25,34,34,36,27,36,34,36,27,36,25,27,20,27,25,27,20,27,34,36,27,36,34,36,27,36,32,34,25,34,32,34,25,34,34,36,27,36,34,36,27,36,25,27,20,27,25,27,20,27,34,36,27,36,34,36,27,36]
theorem zwq(k:Nat):0≤zg gnL k∧zg gnL k≤36:=by
 by_cases hi:k<64
 ·have:∀ k,k<64→0≤zg gnL k∧zg gnL k≤36:=by decide
  exact this k hi
 ·unfold zg;rw[qA,qF (by show 64≤k;omega)];simp
def dqz(l:List Int)(m:List UInt8)(q:Int):List Int:=rgI 64 fun k=>zg l k * (byt m k * q * zg gnL k)
def bfr(n:Nat)(fd:Bool):Nat:=if 4≤n then 0 else n%2 * 8+n / 2 * (if fd then 16 else 128)
def bst(n:Nat)(fd:Bool):Nat:=if 4≤n then 8 else if fd then 32 else 16
def bps(n:Nat)(fd:Bool)(k:Nat):Nat:=bfr n fd+k / 8 * bst n fd+k%8
def bln(n:Nat):Nat:=if 4≤n then 64 else 256
theorem zpM{n:Nat}{fd:Bool}(hn:n<6):∀ k,k<8→bfr n fd+k * bst n fd+8≤bln n:=fun k hk=>by have:n=0∨n=1∨n=2∨n=3∨n=4∨n=5:=om;unfold bfr bst bln;rcases this with rfl|rfl|rfl|rfl|rfl|rfl<;>cases fd<;>simp<;>omega
theorem ztg{n:Nat}{fd:Bool}(hn:n<6){k:Nat}(hk:k<64):bps n fd k<bln n:=by have:=zpM (fd:=fd) hn (k / 8) om;unfold bps;omega
theorem zvC{n:Nat}{fd:Bool}{k j:Nat}(h:bps n fd k=bps n fd j):k=j:=by
 unfold bps bfr bst at h;by_cases hn:4≤n
 ·simp only[if_pos hn]at h;omega
 ·simp only[if_neg hn]at h;cases fd
  ·simp only[Bool.false_eq_true,if_false]at h;omega
  ·simp only[if_true]at h;omega
def blk(p:List UInt8)(n:Nat)(fd:Bool):List Int:=rgI 64 fun k=>byt p (bps n fd k)
def clp(v:Int):Int:=max 0 (min v 255)
theorem zhY(v:Int):0≤clp v∧clp v≤255:=by unfold clp;omega
def zeR(p:List UInt8)(n:Nat)(fd:Bool)(x:List Int):List UInt8:=pst p (bfr n fd) (bst n fd) 8 (rgB 64 fun k=>clp (zg x k)) 8
theorem zg2{p:List UInt8}{n:Nat}{fd:Bool}{x:List Int}(hn:n<6)(hp:p.length=bln n):(zeR p n fd x).length=p.length:=zaH (m:=8) (by rw[zc9]) 8 om fun k hk=>by rw[hp];exact zpM hn k hk
def sst(p:List UInt8)(n:Nat)(fd:Bool)(x:List Int):Nat→List UInt8
 | 0=>p
 | m+1=>(sst p n fd x m).set (bps n fd m) (u8 (clp (zg x m)))
theorem zdY(p:List UInt8)(n:Nat)(fd:Bool)(x:List Int):∀ m,(sst p n fd x m).length=p.length
 | 0=>rfl
 | m+1=>by rw[sst,List.length_set,zdY p n fd x m]
theorem zqB{p:List UInt8}{n:Nat}{fd:Bool}{x:List Int}(hn:n<6)(hp:p.length=bln n):∀ m,m≤64→(∀ k,k<m→byt (sst p n fd x m) (bps n fd k)=clp (zg x k))∧∀ i,(∀ k,k<m→bps n fd k≠i)→byt (sst p n fd x m) i=byt p i
 | 0,_=>⟨fun k hk=>om,fun i _=>rfl⟩
 | m+1,hm=>by
  obtain⟨ih1,ih2⟩:=zqB (x:=x) hn hp m om;have hl:bps n fd m<(sst p n fd x m).length:=by rw[zdY,hp];exact ztg hn om
  refine⟨fun k hk=> ?_,fun i hi=> ?_⟩
  ·rw[sst,zgE _ _ _ _ hl];by_cases hkm:bps n fd k=bps n fd m
   ·rw[if_pos hkm,zvC hkm,zft (zhY _)]
   ·rw[if_neg hkm,ih1 k (by have:k≠m:=fun e=>hkm (by rw[e]);omega)]
  ·rw[sst,zgE _ _ _ _ hl,if_neg fun e=>hi m om e.symm,ih2 i fun k hk=>hi k om]
theorem zkL{p:List UInt8}{n:Nat}{fd:Bool}{x:List Int}(hn:n<6)(hp:p.length=bln n):sst p n fd x 64=zeR p n fd x:=by
 have hz:(rgB 64 fun k=>clp (zg x k)).length=8 * 8:=zc9 _ _;have hfit:∀ k,k<8→bfr n fd+k * bst n fd+8≤p.length:=fun k hk=>by rw[hp];exact zpM hn k hk
 have hws:8≤bst n fd:=by unfold bst;split<;>(try split)<;>omega
 obtain⟨h1,h2⟩:=zqB (x:=x) (fd:=fd) hn hp 64 om;apply zoI
 ·rw[zdY,zg2 hn hp]
 intro i _;by_cases hi:∃ k,k<64∧bps n fd k=i
 ·obtain⟨k,hk,rfl⟩:=hi;rw[h1 k hk,zeR,bps,zgt hz hws 8 om hfit (k / 8) (k%8) om om,show k / 8 * 8+k%8=k from om,zmp (fun k=>clp (zg x k)) hk (zhY _)]
 ·have hm:∀ k,k<64→bps n fd k≠i:=fun k hk e=>hi ⟨k,hk,e⟩;rw[h2 i hm,zeR,zhd hz 8 om hfit];intro j hj hc;apply hm (8 * j+(i - (bfr n fd+j * bst n fd))) om;unfold bps;rw[show(8 * j+(i - (bfr n fd+j * bst n fd))) / 8=j from om];omega
theorem zvt{p:List UInt8}{n:Nat}{fd:Bool}(hn:n<6)(hp:p.length=bln n){k:Nat}(hk:k<64):byt (ctl p (bfr n fd) (bst n fd) 8 8) k=zg (blk p n fd) k:=by have h:=zkb p (bfr n fd) (bst n fd) 8 8 (fun k hk=>by rw[hp];exact zpM hn k hk) (k / 8) (k%8) om om;rw[show k / 8 * 8+k%8=k from om]at h;rw[h,blk,zb3 _ hk,bps]
def clm(i n:Int):Int:=max 0 (min i (n - 1))
def smp(p:List UInt8)(W R c r:Int):Int:=byt p (clm r R * W+clm c W).toNat
theorem zjd(p:List UInt8)(W R c r:Int):0≤smp p W R c r∧smp p W R c r≤255:=zaf _ _
theorem zyn{i n:Int}(h:1≤n):0≤clm i n∧clm i n≤n - 1:=by unfold clm;omega
def pxl(p:List UInt8)(W R x y vx vy:Int):Int:=(smp p W R (x+vx / 2) (y+vy / 2)+smp p W R (x+vx / 2+vx%2) (y+vy / 2)+smp p W R (x+vx / 2) (y+vy / 2+vy%2)+smp p W R (x+vx / 2+vx%2) (y+vy / 2+vy%2)+2) / 4
theorem zrg(p:List UInt8)(W R x y vx vy:Int):0≤pxl p W R x y vx vy∧pxl p W R x y vx vy≤255:=by have h1:=zjd p W R (x+vx / 2) (y+vy / 2);have h2:=zjd p W R (x+vx / 2+vx%2) (y+vy / 2);have h3:=zjd p W R (x+vx / 2) (y+vy / 2+vy%2);have h4:=zjd p W R (x+vx / 2+vx%2) (y+vy / 2+vy%2);unfold pxl;omega
def prd(p:List UInt8)(W R x y:Int)(w h:Nat)(vx vy:Int):List UInt8:=rgB (w * h) fun k=>pxl p W R (x+((k%w:Nat):Int)) (y+((k / w:Nat):Int)) vx vy
theorem zau(p:List UInt8)(W R x y:Int)(w h:Nat)(vx vy:Int):(prd p W R x y w h vx vy).length=w * h:=zc9 _ _
theorem zrk(p:List UInt8)(W R x y:Int)(w h:Nat)(vx vy:Int){k:Nat}(hk:k<w * h):byt (prd p W R x y w h vx vy) k=pxl p W R (x+((k%w:Nat):Int)) (y+((k / w:Nat):Int)) vx vy:=zmp (n:=w * h) _ hk (zrg _ _ _ _ _ _ _)
def wov(a b:List UInt8)(w r:Nat):List UInt8:=((qV r).map fun k=>(a.drop (k * w)).take w++(b.drop (k * w)).take w).flatten
theorem zkw(a b:List UInt8)(w r:Nat):wov a b w (r+1)=wov a b w r++((a.drop (r * w)).take w++(b.drop (r * w)).take w):=by simp[wov,qT]
theorem zaF{a b:List UInt8}{w m:Nat}(ha:a.length=m * w)(hb:b.length=m * w):∀ r,r≤m→(wov a b w r).length=r * (2 * w)
 | 0,_=>by simp[wov]
 | r+1,hr=>by rw[zkw,qK,zaF ha hb r om,qK,zcd ha (show r<m from om),zcd hb (show r<m from om),qD r (2 * w)];omega
theorem zek{a b:List UInt8}{w m:Nat}(ha:a.length=m * w)(hb:b.length=m * w):∀ r,r≤m→∀ j c,j<r→c<w→byt (wov a b w r) (j * (2 * w)+c)=byt a (j * w+c)∧byt (wov a b w r) (j * (2 * w)+w+c)=byt b (j * w+c)
 | 0,_,j,c,hj,_=>om
 | r+1,hr,j,c,hj,hc=>by
  have hl:=zaF ha hb r om;have l1:=zcd ha (show r<m from om);have l2:=zcd hb (show r<m from om);rw[zkw];by_cases hjr:j=r
  ·subst hjr;refine⟨?_,?_⟩
   ·rw[zcl om,hl,zcm om,zdR om,zdS];congr 1;omega
   ·rw[zcl om,hl,zcl om,zdR om,zdS,l1];congr 1;omega
  ·have h1:(j+1) * (2 * w)≤r * (2 * w):=qB _ om;rw[qD]at h1;obtain⟨i1,i2⟩:=zek ha hb r om j c om hc;rw[zcm om,zcm om];exact⟨i1,i2⟩
theorem zjr{a b z:List UInt8}{w m:Nat}(ha:a.length=m * w)(hb:b.length=m * w)(hz:z.length=m * (2 * w)):pst (pst z 0 (2 * w) w a m) w (2 * w) w b m=wov a b w m:=by
 have f0:∀ k,k<m→0+k * (2 * w)+w≤z.length:=fun k hk=>by have h1:(k+1) * (2 * w)≤m * (2 * w):=qB _ om;rw[qD]at h1;omega
 have l1:(pst z 0 (2 * w) w a m).length=z.length:=zaH ha m om f0;have f1:∀ k,k<m→w+k * (2 * w)+w≤(pst z 0 (2 * w) w a m).length:=fun k hk=>by have h1:(k+1) * (2 * w)≤m * (2 * w):=qB _ om;rw[qD]at h1;omega
 apply zoI
 ·rw[zaH hb m om f1,l1,hz,zaF ha hb m om]
 intro i hi;rw[zaH hb m om f1,l1,hz]at hi;have hw:0<w:=by
  rcases qN w with h|h
  ·subst h;simp at hi
  ·exact h
 obtain⟨j,e,he,rfl⟩:∃ j e,e<2 * w∧i=j * (2 * w)+e:=⟨i / (2 * w),i%(2 * w),Nat.mod_lt _ om,by rw[qP];exact(qU _ _).symm⟩;have hj:j<m:=by
  rcases qQ j m with h|h
  ·exact h
  ·have:=qB (2 * w) h;omega
 by_cases hew:e<w
 ·rw[zhd hb m om f1,(zek ha hb m om j e hj hew).1]
  ·have:=zgt (p:=z) (a:=0) (s:=2 * w) ha om m om f0 j e hj hew;rw[Nat.zero_add]at this;exact this
  ·intro k hk hc;rcases qQ k j with h|h
   ·have h1:(k+1) * (2 * w)≤j * (2 * w):=qB _ om;rw[qD]at h1;omega
   ·have h1:j * (2 * w)≤k * (2 * w):=qB _ om;omega
 ·obtain⟨c,rfl⟩:∃ c,e=w+c:=⟨e - w,om⟩;have h1:=(zek ha hb m om j c hj om).2;have h2:=zgt (p:=pst z 0 (2 * w) w a m) (a:=w) (s:=2 * w) hb om m om f1 j c hj om;rw[show j * (2 * w)+(w+c)=w+j * (2 * w)+c from om,h2,←h1];congr 1;omega
def mnb(a b:List UInt8):List UInt8:=rgB a.length fun i=>(byt a i+byt b i+1) / 2
theorem zdb(a b:List UInt8):(mnb a b).length=a.length:=zc9 _ _
theorem zr1{a b:List UInt8}{i:Nat}(h:i<a.length):byt (mnb a b) i=(byt a i+byt b i+1) / 2:=by have h1:=zaf a i;have h2:=zaf b i;exact zmp _ h om
def nr(D:Int)(p q:List UInt8):Prop:=p.length=q.length∧∀ i,-D≤byt p i - byt q i∧byt p i - byt q i≤D
theorem nr.refl{D:Int}(h:0≤D)(p:List UInt8):nr D p p:=⟨rfl,fun i=>om⟩
theorem zoH{p:List UInt8}{i:Nat}(h:p.length≤i):byt p i=0:=by simp[byt,qA,qF h]
theorem nr.mk'{D:Int}(hD:0≤D){p q:List UInt8}(hl:p.length=q.length)(h:∀ i,i<p.length→-D≤byt p i - byt q i∧byt p i - byt q i≤D):nr D p q:=⟨hl,fun i=>by
 by_cases hi:i<p.length
 ·exact h i hi
 ·rw[zoH om,zoH om];omega⟩
theorem nr.D0{D:Int}{p q:List UInt8}(h:nr D p q):0≤D:=by have:=h.2 0;omega
theorem nr.prd{D:Int}{p q:List UInt8}(h:nr D p q)(W R x y:Int)(w k:Nat)(vx vy:Int):nr D (prd p W R x y w k vx vy) (prd q W R x y w k vx vy):=nr.mk' h.D0 (by rw[zau,zau]) fun i hi=>by rw[zau]at hi;rw[zrk _ _ _ _ _ _ _ _ _ hi,zrk _ _ _ _ _ _ _ _ _ hi];have hs:=fun c r:Int=>h.2 (clm r R * W+clm c W).toNat;have h1:=hs (x+((i%w:Nat):Int)+vx / 2) (y+((i / w:Nat):Int)+vy / 2);have h2:=hs (x+((i%w:Nat):Int)+vx / 2+vx%2) (y+((i / w:Nat):Int)+vy / 2);have h3:=hs (x+((i%w:Nat):Int)+vx / 2) (y+((i / w:Nat):Int)+vy / 2+vy%2);have h4:=hs (x+((i%w:Nat):Int)+vx / 2+vx%2) (y+((i / w:Nat):Int)+vy / 2+vy%2);simp only[pxl,smp];generalize byt p _=a1 at *;omega
theorem nr.mnb{D:Int}{p q p' q':List UInt8}(h:nr D p q)(h':nr D p' q'):nr D (mnb p p') (mnb q q'):=nr.mk' h.D0 (by rw[zdb,zdb,h.1]) fun i hi=>by rw[zdb]at hi;rw[zr1 hi,zr1 (by rw[←h.1];exact hi)];have:=h.2 i;have:=h'.2 i;omega
theorem nr.ctl{D:Int}{p q:List UInt8}(h:nr D p q){a s w r:Nat}(hf:∀ k,k<r→a+k * s+w≤p.length):nr D (ctl p a s w r) (ctl q a s w r):=by
 have hf':∀ k,k<r→a+k * s+w≤q.length:=fun k hk=>by rw[←h.1];exact hf k hk
 refine nr.mk' h.D0 (by rw[zba p a s w r hf,zba q a s w r hf']) fun i hi=> ?_;rw[zba p a s w r hf]at hi;have hw:0<w:=by
  rcases qN w with h|h
  ·subst h;simp at hi
  ·exact h
 obtain⟨j,c,hc,rfl⟩:∃ j c,c<w∧i=j * w+c:=⟨i / w,i%w,Nat.mod_lt _ hw,by rw[qP];exact(qU _ _).symm⟩;have hj:j<r:=by
  rcases qQ j r with h|h
  ·exact h
  ·have:=qB w h;omega
 rw[zkb p a s w r hf j c hj hc,zkb q a s w r hf' j c hj hc];exact h.2 _
theorem nr.wov{D:Int}{a b a' b':List UInt8}(h:nr D a a')(h':nr D b b'){w m:Nat}(ha:a.length=m * w)(hb:b.length=m * w):nr D (wov a b w m) (wov a' b' w m):=by
 have ha':a'.length=m * w:=by rw[←h.1,ha]
 have hb':b'.length=m * w:=by rw[←h'.1,hb]
 refine nr.mk' h.D0 (by rw[zaF ha hb m om,zaF ha' hb' m om]) fun i hi=> ?_;rw[zaF ha hb m om]at hi;have hw:0<w:=by
  rcases qN w with h|h
  ·subst h;simp at hi
  ·exact h
 obtain⟨j,e,he,rfl⟩:∃ j e,e<2 * w∧i=j * (2 * w)+e:=⟨i / (2 * w),i%(2 * w),Nat.mod_lt _ om,by rw[qP];exact(qU _ _).symm⟩;have hj:j<m:=by
  rcases qQ j m with h|h
  ·exact h
  ·have:=qB (2 * w) h;omega
 by_cases hew:e<w
 ·rw[(zek ha hb m om j e hj hew).1,(zek ha' hb' m om j e hj hew).1];exact h.2 _
 ·obtain⟨c,rfl⟩:∃ c,e=w+c:=⟨e - w,om⟩;rw[←Nat.add_assoc,(zek ha hb m om j c hj om).2,(zek ha' hb' m om j c hj om).2];exact h'.2 _
theorem nr.sst{D:Int}{p q:List UInt8}{n:Nat}{fd:Bool}{x y:List Int}(h:nr D p q)(hn:n<6)(hp:p.length=bln n)(hx:∀ k,k<64→-D≤zg x k - zg y k∧zg x k - zg y k≤D):∀ m,m≤64→nr D (sst p n fd x m) (sst q n fd y m)
 | 0,_=>h
 | m+1,hm=>by
  have ih:=nr.sst (fd:=fd) h hn hp hx m om;have l1:bps n fd m<(Sc.sst p n fd x m).length:=by rw[zdY,hp];exact ztg hn om
  have l2:bps n fd m<(Sc.sst q n fd y m).length:=by rw[←ih.1];exact l1
  refine nr.mk' h.D0 (by rw[zdY,zdY,h.1]) fun i _=> ?_;rw[Sc.sst,Sc.sst,zgE _ _ _ _ l1,zgE _ _ _ _ l2];by_cases hi:i=bps n fd m
  ·rw[if_pos hi,if_pos hi,zft (zhY _),zft (zhY _)];have:=hx m om;have:=h.D0;unfold clp;omega
  ·rw[if_neg hi,if_neg hi];exact ih.2 i
def cad(p:List UInt8)(n:Nat)(fd:Bool)(x:List Int):List UInt8:=zeR p n fd (rgI 64 fun k=>zg x k+zg (blk p n fd) k)
theorem nr.cad{D:Int}{p q:List UInt8}{n:Nat}{fd:Bool}{x:List Int}(h:nr D p q)(hn:n<6)(hp:p.length=bln n):nr D (cad p n fd x) (cad q n fd x):=by unfold Sc.cad;rw[←zkL hn hp,←zkL hn (by rw[←h.1];exact hp)];refine nr.sst h hn hp (fun k hk=> ?_) 64 om;rw[zb3 _ hk,zb3 _ hk,blk,blk,zb3 _ hk,zb3 _ hk];have:=h.2 (bps n fd k);omega
end Go.Proofs.YtpjlfoficnpfoaaGreatDoor.Sc
