/-
  Parts of the proof. No condition.
-/
import Derived.Test.YtdajpjenhcobkaaGreatDoorX04
open Array renaming toArray_toList → qB
open Option renaming some → qA
set_option linter.all false
set_option maxRecDepth 100000
set_option maxHeartbeats 32000000
namespace Go.Proofs.YtdajpjenhcobkaaGreatDoor.Pm
open Go.RowKit
variable {P:Program} {C:Ctx} {H:za} {w:World} {F:Fr} {a:Act} {N:Nat}
noncomputable def opE(P:Program)(n:Nat)(ds:List (Option Nat))(o:Oper)(F:Fr)(H:za):Option (Fr×za):=
 match zJ o.op with
 | false=>stp P ds o F H
 | true=>match zam ds F o with
  | some true=>match zn o.op (slot F)with
   | some (g,args)=>match zh5 P n (.call g args H)with
    | some (.val v H1)=>some (put F o.dst v,H1)
    | _=>none
   | none=>none
  | some false=>some (put F o.dst (.tup []),H)
  | none=>none
theorem zoS{n:Nat}{all:List Oper}{o:Oper}{F1:Fr}{H1:za}(h:opE P n (all.map (·.dst)) o F H=some (F1,H1)):
  (zby all (slot F) o=some false/\F1=put F o.dst (.tup [])/\H1=H)\/(zby all (slot F) o=some true/\∃ v,Exec P o (slot F) H v H1/\F1=put F o.dst v):=by
 have hcl:zJ o.op=false->zn o.op (slot F)=none:=λhc=>by
  unfold zn;split
  .rename_i f args ts ho;rw[ho]at hc;simp[zJ]at hc
  .rfl
 unfold opE at h;split at h
 .rename_i hc;unfold stp at h;split at h
  .rename_i hb;split at h
   .rename_i v H' hp;simp only[qA.injEq,Prod.mk.injEq]at h;obtain⟨rfl,rfl⟩:=h;exact .inr ⟨zw all F o hb,v,by unfold Exec;rw[hcl hc];exact hp,rfl⟩
   .cases h
  .rename_i hb;simp only[qA.injEq,Prod.mk.injEq]at h;obtain⟨rfl,rfl⟩:=h;exact .inl ⟨zw all F o hb,rfl,rfl⟩
  .cases h
 .split at h
  .rename_i hb;split at h
   .rename_i g args hp;split at h
    .rename_i v H' he;simp only[qA.injEq,Prod.mk.injEq]at h;obtain⟨rfl,rfl⟩:=h;exact .inr ⟨zw all F o hb,v,by unfold Exec;rw[hp];exact zeP n _ _ he,rfl⟩
    .cases h
   .cases h
  .rename_i hb;simp only[qA.injEq,Prod.mk.injEq]at h;obtain⟨rfl,rfl⟩:=h;exact .inl ⟨zw all F o hb,rfl,rfl⟩
  .cases h
def zg4{α:Type}(g:Nat->Option (List α)):List Nat->Option (List α)
 | []=>some []
 | i::r=>match g i with
  | some x=>match zg4 g r with
   | some y=>some (x++y)
   | none=>none
  | none=>none
theorem zgt{α:Type}{g:Nat->Option (List α)}:∀{l:List Nat} {L:List α},zg4 g l=some L->∀ i∈l,∃ x,g i=some x/\∀ y∈x,y∈L
 | [],L,_,i,hi=>by cases hi
 | j::r,L,h,i,hi=>by
  simp only[zg4]at h;split at h
  .rename_i x hx;split at h
   .rename_i y hy;injection h with h;subst h;rcases List.mem_cons.1 hi with rfl|hi
    .exact⟨x,hx,λz hz=>List.mem_append.2 (.inl hz)⟩
    .obtain⟨x',h1,h2⟩:=zgt hy i hi;exact⟨x',h1,λz hz=>List.mem_append.2 (.inr (h2 z hz))⟩
   .cases h
  .cases h
noncomputable def zsw(P:Program)(n N:Nat)(ops:Array Oper):Nat->Array Bool->Fr->za->Option (List (Fr×za))
 | 0,listed,F,H=>match Region.ready .any ops listed with|[]=>some [(F,H)]|_=>none
 | k+1,listed,F,H=>match Region.ready .any ops listed with
  | []=>some [(F,H)]
  | r=>zg4 (λi=>match ops[i]? with
   | some o=>match zU N o with
    | true=>match opE P n (ops.toList.map (·.dst)) o F H with
     | some (F1,H1)=>zsw P n N ops k (listed.setIfInBounds i true) F1 H1
     | none=>none
    | false=>none
   | none=>none) r
theorem zih{n:Nat}{ops:Array Oper}{Q:Exit->Act->World->Prop}:∀(k:Nat) (listed:Array Bool) (F:Fr) (H:za) (L:List (Fr×za)),zsw P n N ops k listed F H=some L->∀(C:Ctx) (a:Act) (w:World),a.defers=[]->WRel C H w->FRel C N (slot F) a->
  (∀ C' F' H' a' w',CLe C C'->a'.defers=[]->WRel C' H' w'->Below C.B w w'->FRel C' N (slot F') a'->(F',H')∈L->Q .normal a' w')->wpAny P .any ops Q k listed a w
 | 0,listed,F,H,L,h,C,a,w,hd,hw,hf,hQ=>by
  simp only[zsw]at h;split at h
  .rename_i hr;injection h with h;subst h;exact⟨hr,hQ C F H a w (.refl _) hd hw (.refl _ _) hf sp⟩
  .cases h
 | k+1,listed,F,H,L,h,C,a,w,hd,hw,hf,hQ=>by
  simp only[zsw]at h;split at h
  .rename_i hr;injection h with h;subst h;exact⟨λ_=>hQ C F H a w (.refl _) hd hw (.refl _ _) hf sp,λi hi=>by rw[hr]at hi;cases hi⟩
  .rename_i hne;refine⟨λe=>absurd e hne,λi hi=> ?_⟩;obtain⟨x,hx,hsub⟩:=zgt h i hi;split at hx
   .rename_i o ho;split at hx
    .rename_i hdst;split at hx
     .rename_i F1 H1 hop;unfold wpOp;rw[ho];simp only;have next:∀ C' u w' v,F1=put F o.dst v->CLe C C'->WRel C' H1 w'->Below C.B w w'->FRel C' N (upd (slot F) o.dst v) (a.put o.dst u)->wpAny P .any ops Q k (listed.setIfInBounds i true) (a.put o.dst u) w':=by intro C' u w' v hF1 q1 q2 q3 q4;refine zih k _ F1 H1 x hx C' _ w' (by cases hod:o.dst<;>simp[Act.put,hd]) q2 (by rw[hF1,zae];exact q4) ?_;intro C'' F'' H'' a'' w'' p1 p2 p3 p4 p5 p6;exact hQ C'' F'' H'' a'' w'' (q1.trans p1) p2 p3 (q3.trans (by rw[<-q1.B];exact p4)) p5 (hsub _ p6)
      rcases zoS hop with⟨h1,h2,h3⟩|⟨h1,v,h2,h3⟩
      .have hwant:=zS hf h1;rw[qB]at hwant;rw[if_neg (by rw[hwant];simp)];exact next C _ w (.tup []) h2 (.refl _) (h3▸hw) (.refl _ _) (hf.put o.dst (zaQ hdst) VRel.undefV)
      .have hwant:=zS hf h1;rw[qB]at hwant;rw[if_pos hwant];left;exact zdu hdst hw hf h2 _ _ (λC' u w' q1 q2 q3 q4=>next C' u w' v h3 q1 q2 q3 q4)
     .cases hx
    .cases hx
   .cases hx
theorem PW.any{E:Env}{Q:Exit->Fr->za->Prop}{id n:Nat}{ops:Array Oper}{L:List (Fr×za)}(hm:P.follows .mixedOrders=true)(h:zsw P n E.N ops ops.size (Array.replicate ops.size false) F H=some L)(hQ:∀ F' H',(F',H')∈L->Q .normal F' H'):
  PW P E (.region id ops true) F H Q:=λhs C a w hdf hw hf=>by
 refine wp_region_any hm ?_;refine zih ops.size _ F H L h C a w.drew hdf hw.drew hf ?_;rintro C' F' H' a' w' p1 p2 p3 p4 p5 p6;exact⟨C',F',H',p1.toN _,p2,p3,((Below.refl C.B w).drew).trans p4,p5,hQ F' H' p6⟩
end Go.Proofs.YtdajpjenhcobkaaGreatDoor.Pm
