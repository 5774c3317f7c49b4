/-
  Parts of the proof, put together in one text. No condition.
-/
import Derived.Test.YtjgmdlcjbgiekaaGreatDoorQ01
namespace Go.Proofs.YtjgmdlcjbgiekaaGreatDoor.Pm
set_option linter.all false
open Go.RowKit
abbrev Fr:=List (Nat×PV)
def slot:Fr→Nat→PV
 | [],_=>.undef
 | (k,v)::r,t=>match Nat.beq k t with|true=>v|false=>slot r t
def put (F:Fr) (d:Option Nat) (v:PV):Fr:=match d with|none=>F|some d=>(d,v)::F
def pv1:Value→PV
 | .int k n=>.int k n
 | .bool b=>.bool b
 | .string s=>.str s.data.toList
 | .pointer none=>.nilp
 | .slice none 0 0=>.slice [] 0 true
 | .nilFunc=>.nl 0
 | .nilIface=>.nl 1
 | .map none=>.nl 2
 | _=>.undef
def pvc:Value→PV
 | .agg cs=>match (cs.toList.map pv1).all PV.cell with|true=>.agg (cs.toList.map pv1)|false=>.undef
 | .tuple vs=>.tup (vs.toList.map pv1)
 | v=>pv1 v
def ev (F:Nat→PV):Operand→PV
 | .tmp t=>F t
 | .const v=>pvc v
 | .func f=>.func f [] []
 | .global g=>.nl (g+3)
def szT (P:Program) (t:TypeId):Option Nat:=(P.info? t).map (·.size)
def byT (P:Program) (t:TypeId):Option Nat:=(P.info? t).map (·.bytes)
def zrT (P:Program) (t:TypeId):Option PV:=(P.info? t).bind fun i=>i.zero.map pvc
def zci (P:Program) (t:TypeId):Option Bool:=
 match P.underlying t with
 | some (.struct _)=>some true
 | some (.array _ _)=>some true
 | some _=>some false
 | none=>none
def zbd (H:za) (id ver:Nat):Bool:=match H[id]? with|some k=>Nat.beq k.ver ver|none=>false
def zbc (op:BinOp) (k:IntKind) (a:Int) (k':IntKind) (b:Int):Option PV:=
 match op with
 | .shl=>if b<0 then none else some (.int k (k.wrap (a * 2^min b.toNat k.bits)))
 | .shr=>if b<0 then none else some (.int k (a.fdiv (2^min b.toNat k.bits)))
 | .add=>if k=k' then some (.int k (k.wrap (a+b))) else none
 | .sub=>if k=k' then some (.int k (k.wrap (a - b))) else none
 | .mul=>if k=k' then some (.int k (k.wrap (a * b))) else none
 | .quo=>if k=k' then (if b=0 then none else some (.int k (k.wrap (a.tdiv b)))) else none
 | .rem=>if k=k' then (if b=0 then none else some (.int k (a.tmod b))) else none
 | .and=>if k=k' then some (.int k (k.wrap (BitVec.ofInt k.bits a&&& BitVec.ofInt k.bits b).toNat)) else none
 | .or=>if k=k' then some (.int k (k.wrap (BitVec.ofInt k.bits a|||BitVec.ofInt k.bits b).toNat)) else none
 | .xor=>if k=k' then some (.int k (k.wrap (BitVec.ofInt k.bits a^^^BitVec.ofInt k.bits b).toNat)) else none
 | .andNot=>if k=k' then some (.int k (k.wrap (BitVec.ofInt k.bits a&&& ~~~BitVec.ofInt k.bits b).toNat)) else none
 | .eql=>if k=k' then some (.bool (a==b)) else none
 | .neq=>if k=k' then some (.bool (a !=b)) else none
 | .lss=>if k=k' then some (.bool (decide (a<b))) else none
 | .leq=>if k=k' then some (.bool (decide (a≤b))) else none
 | .gtr=>if k=k' then some (.bool (decide (b<a))) else none
 | .geq=>if k=k' then some (.bool (decide (b≤a))) else none
def zru (op:BinOp) (a b:List UInt8):Option PV:=
 match op with
 | .add=>if a.length+b.length≤140737488355328 then some (.str (a++b)) else none
 | .eql=>some (.bool (a==b))
 | .neq=>some (.bool !(a==b))
 | .lss=>some (.bool (Op.bytesLess a b))
 | .leq=>some (.bool (Op.bytesLess a b||a==b))
 | .gtr=>some (.bool !(Op.bytesLess a b||a==b))
 | .geq=>some (.bool !(Op.bytesLess a b))
 | _=>none
def peq (op:BinOp) (b:Bool):Option PV:=
 match op with
 | .eql=>some (.bool b)
 | .neq=>some (.bool !b)
 | _=>none
def zdr (P:Program) (t:TypeId):Bool:=match P.underlying t with|some (.pointer _)=>true|_=>false
def zfS (P:Program) (t:TypeId):Bool:=match P.underlying t with|some .bool=>true|_=>false
def ze5 (P:Program) (H:za) (op:BinOp) (t:TypeId) (x y:PV):Option PV:=
 match x,y with
 | .int k a,.int k' b=>zbc op k a k' b
 | .str a,.str b=>zru op a b
 | .bool a,.bool b=>match zfS P t with|true=>peq op (a==b)|false=>none
 | .nilp,.nilp=>match zdr P t with|true=>peq op true|false=>none
 | .ptr id ver _,.nilp=>match zdr P t&&zbd H id ver with|true=>peq op false|false=>none
 | .nilp,.ptr id ver _=>match zdr P t&&zbd H id ver with|true=>peq op false|false=>none
 | .ip _ _,.nilp=>match zdr P t with|true=>peq op false|false=>none
 | .nilp,.ip _ _=>match zdr P t with|true=>peq op false|false=>none
 | _,_=>none
def zcw (P:Program) (t:TypeId):Option TypeDesc:=match P.underlying t with|some (.int k)=>some (.int k)|some .bool=>some .bool|some .string=>some .string|_=>none
def zcR:TypeDesc→PV→PV→Option Bool
 | .int _,.int k a,.int k' b=>if k=k' then some (a==b) else none
 | .bool,.bool a,.bool b=>some (a==b)
 | .string,.str a,.str b=>some (a==b)
 | _,_,_=>none
def zdP (u:TypeDesc):List PV→List PV→Option Bool
 | [],[]=>some true
 | x::xs,y::ys=>match zcR u x y with
  | some c=>(zdP u xs ys).map fun r=>c&&r
  | none=>none
 | _,_=>none
def pun (op:UnOp) (x:PV):Option PV:=
 match op,x with
 | .neg,.int k n=>some (.int k (k.wrap (0 - n)))
 | .xor,.int k n=>some (.int k (k.wrap (BitVec.ofInt k.bits (if k.signed then -1 else k.max)^^^BitVec.ofInt k.bits n).toNat))
 | .not,.bool b=>some (.bool !b)
 | _,_=>none
def byteOf:PV→Option UInt8
 | .int .u8 n=>some (UInt8.ofNat n.toNat)
 | _=>none
def ze4 (xs:List PV):Option (List UInt8):=xs.mapM byteOf
def zaI (H:za) (sz:Nat) (x:PV):Option (List PV×Nat):=
 match x with
 | .slice xs len _=>if xs.length=len * sz then some (xs,len) else none
 | .msl id ver off len _ _=>match H[id]? with
  | some k=>if k.ver=ver∧off+len * sz≤k.cells.length then some ((k.cells.drop off).take (len * sz),len) else none
  | none=>none
 | _=>none
def zdT (P:Program) (H:za) (src dst:TypeId) (x:PV):Option PV:=
 match P.underlying src,P.underlying dst,x with
 | some _,some (.int k),.int _ n=>some (.int k (k.wrap n))
 | some _,some .string,.str s=>some (.str s)
 | some _,some .string,.int _ n=>if 0≤n∧n<128 then some (.str [UInt8.ofNat n.toNat]) else none
 | some (.slice e),some .string,x=>match P.underlying e with
  | some (.int .u8)=>(zaI H 1 x).bind fun c=>(ze4 c.1).map .str
  | _=>none
 | _,_,_=>none
def zO (xs:List PV) (off:Nat) (ys:List PV):List PV:=xs.take off++ys++xs.drop (off+ys.length)
def rd (P:Program) (t:TypeId) (xs:List PV) (off:Nat):Option PV:=
 match zci P t with
 | some true=>match szT P t with
  | some n=>if off+n≤xs.length then some (.agg ((xs.drop off).take n)) else none
  | none=>none
 | some false=>xs[off]?
 | none=>none
def ztk (P:Program) (t:TypeId):Nat→Option PV
 | g+3=>match zuC g with
  | some l=>rd P t (l.map fun x=>.int x.1 x.2) 0
  | none=>none
 | _=>none
def zc8 (P:Program) (H:za) (t:TypeId) (x:PV):Option PV:=
 match x with
 | .nl k=>ztk P t k
 | .ip xs off=>rd P t xs off
 | .ptr id ver off=>match H[id]? with
  | some k=>if k.ver=ver then rd P t k.cells off else none
  | none=>none
 | _=>none
def wr (P:Program) (t:TypeId) (xs:List PV) (off:Nat) (v:PV):Option (List PV):=
 match v with
 | .agg cs=>if szT P t=some cs.length∧off+cs.length≤xs.length then some (zO xs off cs) else none
 | v=>if szT P t=some 1∧v.cell=true∧off<xs.length then some (xs.set off v) else none
def zcQ (P:Program) (H:za) (t:TypeId) (x v:PV):Option za:=
 match x with
 | .ptr id ver off=>match H[id]? with
  | some k=>if k.ver=ver then (wr P t k.cells off v).map fun c=>H.set id ⟨k.e,k.ver,c⟩ else none
  | none=>none
 | _=>none
def zbV (eq:TypeId→PV→PV→Option Bool) (P:Program) (xs ys:List PV):List Field→Option Bool
 | []=>some true
 | f :: r => match decide (f.name = "_") with
  | true=>none
  | false=>match rd P f.type xs f.offset,rd P f.type ys f.offset with
   | some a,some b=>match eq f.type a b with
    | some c=>(zbV eq P xs ys r).map fun q=>c&&q
    | none=>none
   | _,_=>none
def zhh (eq:TypeId→PV→PV→Option Bool) (P:Program) (e n:Nat) (xs ys:List PV):List Nat→Option Bool
 | []=>some true
 | i::r=>match rd P e xs (i * n),rd P e ys (i * n) with
  | some a,some b=>match eq e a b with
   | some c=>(zhh eq P e n xs ys r).map fun q=>c&&q
   | none=>none
  | _,_=>none
def zaP (P:Program):Nat→TypeId→PV→PV→Option Bool
 | 0,_,_,_=>none
 | d+1,t,x,y=>match P.underlying t with
  | some (.struct fs)=>match x,y with
   | .agg xs,.agg ys=>match P.stoodInHeld t with
    | false=>zbV (zaP P d) P xs ys fs.toList
    | true=>none
   | _,_=>none
  | some (.array len e)=>match x,y with
   | .agg xs,.agg ys=>match zcw P e with
    | some u=>if szT P e=some 1∧xs.length=len∧ys.length=len then zdP u xs ys else none
    | none=>match szT P e with
     | some n=>zhh (zaP P d) P e n xs ys (List.range len)
     | none=>none
   | _,_=>none
  | some u=>zcR u x y
  | none=>none
def zdm (P:Program) (op:BinOp) (t:TypeId) (x y:PV):Option PV:=
 match P.eqGuardType P.depth t with
 | false=>match zaP P 12 t x y with
  | some b=>peq op b
  | none=>none
 | true=>none
def zai (P:Program) (H:za) (s:TypeId) (x:PV) (f:Nat):Option PV:=
 match P.underlying s with
 | some (.struct fs)=>match fs[f]? with
  | some fd=>match szT P fd.type with
   | some n=>if 0<n then match x with
     | .ip xs off=>some (.ip xs (off+fd.offset))
     | .ptr id ver off=>match zbd H id ver with|true=>some (.ptr id ver (off+fd.offset))|false=>none
     | _=>none
    else none
   | none=>none
  | none=>none
 | _=>none
def zil (P:Program) (s:TypeId) (x:PV) (f:Nat):Option PV:=
 match P.underlying s with
 | some (.struct fs)=>match fs[f]? with
  | some fd=>match x with
   | .agg cs=>rd P fd.type cs fd.offset
   | _=>none
  | none=>none
 | _=>none
def zah (P:Program) (H:za) (t:TypeId) (x i:PV):Option PV:=
 match P.underlying t,x,i with
 | some (.slice e),.slice xs len _,.int _ i=>match szT P e with
  | some n=>if 0≤i∧i<len∧len * n≤xs.length∧0<n then some (.ip xs (i.toNat * n)) else none
  | none=>none
 | some (.slice e),.msl id ver off len _ _,.int _ i=>match szT P e,zbd H id ver with
  | some n,true=>if 0≤i∧i<len then some (.ptr id ver (off+i.toNat * n)) else none
  | _,_=>none
 | some (.array len e),.ptr id ver off,.int _ i=>match szT P e,zbd H id ver with
  | some n,true=>if 0≤i∧i<len then some (.ptr id ver (off+i.toNat * n)) else none
  | _,_=>none
 | some (.array len e),.ip xs off,.int _ i=>match szT P e with
  | some n=>if 0≤i∧i<len then some (.ip xs (off+i.toNat * n)) else none
  | none=>none
 | _,_,_=>none
def zii (P:Program) (t:TypeId) (x i:PV):Option PV:=
 match P.underlying t,x,i with
 | some (.array len e),.agg cs,.int _ i=>match szT P e with
  | some n=>if 0≤i∧i<len then rd P e cs (i.toNat * n) else none
  | none=>none
 | some .string,.str s,.int _ i=>if 0≤i∧i<s.length then some (.int .u8 ((s.getD i.toNat 0).toNat:Int)) else none
 | _,_,_=>none
def zaq (d:Nat):Option PV→Option Nat
 | none=>some d
 | some (.int _ i)=>if 0≤i then some i.toNat else none
 | some _=>none
def zcr (P:Program) (H:za) (t:TypeId) (x:PV) (lo hi mx:Option PV):Option PV:=
 match P.underlying t,x with
 | some (.slice e),.slice xs len full=>match szT P e,zaq 0 lo,zaq len hi with
  | some n,some l,some h=>match mx with
   | none=>if l≤h∧h≤len∧xs.length=len * n then some (.slice ((xs.drop (l * n)).take ((h - l) * n)) (h - l) (full&&decide (h=len))) else none
   | some z=>match zaq len (some z),hi with
    | some m,some _=>if l≤h∧h≤m∧m≤len∧xs.length=len * n then some (.slice ((xs.drop (l * n)).take ((h - l) * n)) (h - l) (decide (m=h))) else none
    | _,_=>none
  | _,_,_=>none
 | some (.slice e),.msl id ver off len sz g=>match szT P e,zaq 0 lo,zaq len hi,mx,zbd H id ver with
  | some n,some l,some h,none,true=>if l≤h∧h≤len then some (.msl id ver (off+l * n) (h - l) sz (match lo with|none=>g|some _=>false)) else none
  | _,_,_,_,_=>none
 | some (.array len e),.ptr id ver off=>match szT P e,zaq 0 lo,zaq len hi,mx,zbd H id ver with
  | some n,some l,some h,none,true=>if l≤h∧h≤len∧len≤1048576 then some (.msl id ver (off+l * n) (h - l) n false) else none
  | _,_,_,_,_=>none
 | some .string,.str s=>match zaq 0 lo,zaq s.length hi,mx with
  | some l,some h,none=>if l≤h∧h≤s.length then some (.str ((s.drop l).take (h - l))) else none
  | _,_,_=>none
 | _,_=>none
def zc9 (place:Nat→Option (Nat×Nat)) (cs:List PV):List (Nat×PV)→Option (List PV)
 | []=>some cs
 | (i,v)::rest=>match place i with
  | none=>none
  | some (off,size)=>if v.cells.length=size∧off+size≤cs.length∧v.cells.all PV.cell=true then zc9 place (zO cs off v.cells) rest else none
def zav (P:Program) (fs:List Field) (i:Nat):Option (Nat×Nat):=
 match fs[i]? with
 | some f=>(szT P f.type).map fun n=>(f.offset,n)
 | none=>none
def zk (P:Program) (t:TypeId):Option (List PV):=match zrT P t with|some z=>(match z.cells.all PV.cell with|true=>some z.cells|false=>none)|none=>none
def zd3 (P:Program) (t:TypeId) (parts:List (Nat×PV)):Option PV:=
 match P.underlying t,zk P t with
 | some (.struct fs),some z=>match fs.toList.all (fun f=>(szT P f.type).isSome) with
  | true=>(zc9 (zav P fs.toList) z parts).map .agg
  | false=>none
 | some (.array _ e),some z=>match szT P e with
  | some n=>(zc9 (fun i=>some (i * n,n)) z parts).map .agg
  | none=>none
 | _,_=>none
def zbE (n:Nat) (z:List PV):List PV:=(List.replicate n z).flatten
def zck (P:Program) (t:TypeId) (len:Nat) (parts:List (Nat×PV)):Option PV:=
 match P.underlying t with
 | some (.slice e)=>match szT P e,zk P e with
  | some n,some z=>if len=0∧parts.length=0 then some (.slice [] 0 true) else if z.length=n∧0<len * n∧len * n≤65536 then (zc9 (fun i=>some (i * n,n)) (zbE len z) parts).map fun c=>.slice c len true else none
  | _,_=>none
 | _=>none
def zjA (P:Program) (H:za) (t:TypeId) (l c:PV):Option (PV×za):=
 match P.underlying t,l,c with
 | some (.slice e),.int _ l,.int _ c=>match szT P e,byT P e,zk P e with
  | some n,some b,some z=>if 0≤l∧l≤c∧(b:Int) * c≤140737488355328∧c≤140737488355328∧z.length=n∧0<n then some (.msl H.length 0 0 l.toNat n true,H++[⟨e,0,zbE l.toNat z⟩]) else none
  | _,_,_=>none
 | _,_,_=>none
def zbi (P:Program) (H:za) (e sz:Nat) (tx:TypeId) (x:PV):Option (List PV×Nat):=
 match P.underlying tx,x with
 | some (.slice _),x=>zaI H sz x
 | some (.int _),.int _ n=>match zk P e with
  | some z=>if 0≤n∧n≤1048576∧z.length=sz then some (zbE n.toNat z,n.toNat) else none
  | none=>none
 | some .string,.str s=>if sz=1 then some (s.map fun b=>.int .u8 (b.toNat:Int),s.length) else none
 | _,_=>none
def zaJ (P:Program) (H:za) (t tx:TypeId) (s x:PV):Option (PV×za):=
 match P.underlying t with
 | some (.slice e)=>match szT P e,byT P e,zk P e with
  | some sz,some b,some z=>
   if 0<sz∧z.length=sz then
    match zbi P H e sz tx x with
    | some (news,n)=>
     match s with
     | .slice xs len full=>
      if n=0 then some (.slice xs len full,H)
      else if full=true∧xs.length=len * sz∧(len+n) * b≤140737488355328∧len+n≤140737488355328 then some (.msl H.length (xs++news).length 0 (len+n) sz true,H++[⟨e,(xs++news).length,xs++news⟩]) else none
     | .msl id ver off len sz' g=>match H[id]? with
      | some k=>
       if k.ver=ver∧g=true∧off=0∧sz'=sz∧k.e=e∧k.cells.length=len * sz∧k.ver≤k.cells.length∧(len+n) * b≤140737488355328∧len+n≤140737488355328 then
        (if n=0 then some (.msl id ver off len sz' g,H) else some (.msl id (k.cells++news).length 0 (len+n) sz true,H.set id ⟨e,(k.cells++news).length,k.cells++news⟩)) else none
      | none=>none
     | _=>none
    | none=>none
   else none
  | _,_,_=>none
 | _=>none
def zft (P:Program) (H:za) (t:TypeId) (d x:PV):Option (PV×za):=
 match P.underlying t with
 | some (.slice e)=>match szT P e with
  | some sz=>match d with
   | .msl id ver off len _ _=>match H[id]?,zaI H sz x with
    | some k,some (ys,n)=>if k.ver=ver∧off+len * sz≤k.cells.length then some (.int .i64 (min n len:Nat),H.set id ⟨k.e,ver,zO k.cells off (ys.take (min n len * sz))⟩) else none
    | _,_=>none
   | .slice _ 0 _=>match zaI H sz x with
    | some _=>some (.int .i64 0,H)
    | none=>none
   | _=>none
  | none=>none
 | _=>none
def ze1 (P:Program) (H:za) (t:TypeId) (x:PV):Option PV:=
 match P.underlying t,x with
 | some .string,.str s=>some (.int .i64 (s.length:Nat))
 | some (.array n _),_=>some (.int .i64 (n:Nat))
 | some (.slice _),.slice _ n _=>some (.int .i64 (n:Nat))
 | some (.slice _),.msl id ver _ n _ _=>match zbd H id ver with|true=>some (.int .i64 (n:Nat))|false=>none
 | _,_=>none
def zrC (x y:PV):Option PV:=match x,y with| .int k a,.int _ b=>some (.int k (if b<a then b else a))|_,_=>none
def zm8 (x y:PV):Option PV:=match x,y with| .int k a,.int _ b=>some (.int k (if b>a then b else a))|_,_=>none
def zem (f:PV→PV→Option PV):PV→List PV→Option PV
 | x,[]=>some x
 | x,y::r=>match f x y with|some z=>zem f z r|none=>none
def zy (P:Program) (H:za) (b:Builtin) (ts:List TypeId) (args:List PV):Option (PV×za):=
 match b,ts,args with
 | .len,[t],[x]=>(ze1 P H t x).map fun v=>(v,H)
 | .append,[t,tx],[s,x]=>zaJ P H t tx s x
 | .copy,[t,_],[d,x]=>zft P H t d x
 | .min,_,x::r=>(zem zrC x r).map fun v=>(v,H)
 | .max,_,x::r=>(zem zm8 x r).map fun v=>(v,H)
 | _,_,_=>none
def zhg (H:za) (x:PV):Option PV:=
 match x with
 | .ptr id ver off=>match zbd H id ver with|true=>some (.ptr id ver off)|false=>none
 | .ip xs off=>some (.ip xs off)
 | .func f a b=>some (.func f a b)
 | _=>none
def zk5:Value→Bool
 | .slice none n m=>Nat.beq n 0&&Nat.beq m 0
 | _=>false
def zcV:Operand→Bool
 | .const v=>zk5 v
 | .tmp _=>false
 | .func _=>false
 | .global _=>false
def zbu (P:Program) (H:za) (op:BinOp) (t:TypeId) (x:PV):Option PV:=
 match P.underlying t with
 | some (.slice _)=>match x with
  | .slice _ n _=>if 0<n then peq op false else none
  | .msl id ver _ n _ _=>if 0<n∧zbd H id ver=true then peq op false else none
  | _=>none
 | _=>none
def zbP (d:TypeDesc) (k:PV):List PV→Nat→Option (Option (Nat×PV))
 | [],_=>some none
 | .tup [a,v]::r,i=>match zcR d k a with
  | some true=>some (some (i,v))
  | some false=>zbP d k r (i+1)
  | none=>none
 | _::_,_=>none
def zap (P:Program) (H:za) (t:TypeId) (m:PV):Option (TypeId×TypeDesc×Nat×Blk):=
 match P.underlying t,m with
 | some (.map kt e),.mp id ver=>match zcw P kt,H[id]? with
  | some d,some b=>if b.ver=ver then some (e,d,id,b) else none
  | _,_=>none
 | _,_=>none
def zc7 (P:Program) (H:za) (t:TypeId) (m k:PV) (ok:Bool):Option PV:=
 match zap P H t m with
 | some (e,d,_,b)=>match zbP d k b.cells 0 with
  | some (some (_,v))=>some (match ok with|true=>.tup [v,.bool true]|false=>v)
  | some none=>match zrT P e with
   | some z=>some (match ok with|true=>.tup [z,.bool false]|false=>z)
   | none=>none
  | none=>none
 | none=>none
def zc6 (P:Program) (H:za) (t:TypeId) (m k v:PV):Option za:=
 match zap P H t m with
 | some (_,d,id,b)=>match zbP d k b.cells 0 with
  | some (some (i,_))=>some (H.set id ⟨b.e,b.ver,b.cells.set i (.tup [k,v])⟩)
  | some none=>some (H.set id ⟨b.e,b.ver,b.cells++[.tup [k,v]]⟩)
  | none=>none
 | none=>none
def pop (P:Program) (op:Op) (F:Nat→PV) (H:za):Option (PV×za):=
 match op with
 | .move x=>some (ev F x,H)
 | .assign x=>some (ev F x,H)
 | .pick c a b=>match ev F c,ev F a,ev F b with
  | .bool t,.bool p,.bool q=>some (.bool (bif t then p else q),H)
  | .bool t,p,q=>some (bif t then p else q,H)
  | _,_,_=>none
 | .box elem x=>match (ev F x).cells.all PV.cell with|true=>some (.ptr H.length 0 0,H++[⟨elem,0,(ev F x).cells⟩])|false=>none
 | .alloc elem=>(zk P elem).map fun z=>(.ptr H.length 0 0,H++[⟨elem,0,z⟩])
 | .build t parts=>(zd3 P t (parts.toList.map fun p=>(p.1,ev F p.2))).map fun v=>(v,H)
 | .buildSlice t len parts=>(zck P t len (parts.toList.map fun p=>(p.1,ev F p.2))).map fun v=>(v,H)
 | .load t a=>(zc8 P H t (ev F a)).map fun v=>(v,H)
 | .store t a x=>(zcQ P H t (ev F a) (ev F x)).map fun H'=>(.tup [],H')
 | .nilCheck x=>(zhg H (ev F x)).map fun v=>(v,H)
 | .binOp op t x y _=>match zcV y with
  | true=>(zbu P H op t (ev F x)).map fun v=>(v,H)
  | false=>match ev F x,ev F y with
   | .agg xs,.agg ys=>(zdm P op t (.agg xs) (.agg ys)).map fun v=>(v,H)
   | a,b=>(ze5 P H op t a b).map fun v=>(v,H)
 | .unOp op _ x=>(pun op (ev F x)).map fun v=>(v,H)
 | .convert src dst x=>(zdT P H src dst (ev F x)).map fun v=>(v,H)
 | .makeFunc (.func f) first captured=>some (.func f (first.toList.map (ev F)) (captured.toList.map (ev F)),H)
 | .makeSlice t l c=>zjA P H t (ev F l) (ev F c)
 | .slice t x lo hi mx=>(zcr P H t (ev F x) (lo.map (ev F)) (hi.map (ev F)) (mx.map (ev F))).map fun v=>(v,H)
 | .fieldAddr s x f=>(zai P H s (ev F x) f).map fun v=>(v,H)
 | .field s x f=>(zil P s (ev F x) f).map fun v=>(v,H)
 | .indexAddr t x i=>(zah P H t (ev F x) (ev F i)).map fun v=>(v,H)
 | .index t x i=>(zii P t (ev F x) (ev F i)).map fun v=>(v,H)
 | .makeMap t none=>some (.mp H.length 0,H++[⟨t,0,[]⟩])
 | .lookup t m k ok=>(zc7 P H t (ev F m) (ev F k) ok).map fun v=>(v,H)
 | .mapUpdate t m k x=>(zc6 P H t (ev F m) (ev F k) (ev F x)).map fun H'=>(.tup [],H')
 | .insert t m k x=>(zc6 P H t (ev F m) (ev F k) (ev F x)).map fun H'=>(.tup [],H')
 | .extract x i=>match ev F x with| .tup vs=>(vs[i]?).map fun v=>(v,H)|_=>none
 | .call { callee:=.builtin b,args,argTypes }=>zy P H b argTypes.toList (args.toList.map (ev F))
 | _=>none
def zr (op:Op) (F:Nat→PV):Option (FuncId×List PV):=
 match op with
 | .call { callee:=.value f,args,.. }=>match ev F f with
  | .func f first captured=>some (f,first++args.toList.map (ev F)++captured)
  | _=>none
 | _=>none
variable {P:Program} {C:Ctx} {H:za} {w:World} {F:Nat→PV} {a:Act} {N:Nat}
def FRel (C:Ctx) (N:Nat) (F:Nat→PV) (a:Act):Prop:=a.tmps.size=N∧∀ t,VRel C (F t) (a.tmps.getD t Go.undef)
theorem FRel.mono {C':Ctx} (h:CLe C C') (r:FRel C N F a):FRel C' N F a:=⟨r.1,fun t=>(r.2 t).mono h⟩
theorem VRel.undefV:VRel C (.tup []) Go.undef:=.tup (us:=[]) rfl (fun j x u hx=>by simp at hx)
def upd (F:Nat→PV) (d:Option Nat) (v:PV):Nat→PV:=match d with|none=>F|some d=>fun t=>if d=t then v else F t
theorem zX (F:Fr) (d:Option Nat) (v:PV):slot (put F d v)=upd (slot F) d v:=by
 cases d with
 | none=>rfl
 | some d=>
  funext t
  show (match Nat.beq d t with|true=>v|false=>slot F t)=if d=t then v else slot F t
  by_cases h:d=t
  ·subst h;rw [Nat.beq_refl];simp
  ·rw [show Nat.beq d t=false from by cases hb:Nat.beq d t with|false=>rfl|true=>exact absurd (Nat.eq_of_beq_eq_true hb) h];simp [h]
theorem FRel.put (r:FRel C N F a) (d:Option Nat) (hd:∀ t,d=some t→t<N) {v:PV} {u:Value} (hv:VRel C v u):FRel C N (upd F d v) (a.put d u):=by
 cases d with
 | none=>exact r
 | some d=>
  have hlt:=hd d rfl
  refine ⟨by simp [Act.put,r.1],fun t=> ?_⟩
  simp only [upd,Act.put,Array.getD_eq_getD_getElem?,Array.getElem?_setIfInBounds]
  by_cases h:d=t
  ·subst h
   simp [r.1,hlt,hv]
  ·simp only [h,if_false]
   have:=r.2 t
   rwa [Array.getD_eq_getD_getElem?] at this
theorem zh9 (v:Value):VRel C (pv1 v) v:=by
 unfold pv1
 split
 all_goals first|exact .int _ _|exact .bool _|exact .str _|exact .nilp|exact .sliceN _ _|exact .nl 0|exact .nl 1|exact .nl 2|exact .undef _
theorem zek (v:Value):VRel C (pvc v) v:=by
 unfold pvc
 split
 ·rename_i cs
  split
  ·rename_i h
   have:=VRel.agg (C:=C) (cs:=cs.toList.map pv1) (us:=cs.toList) (by simp) (fun x hx=>List.all_eq_true.1 h x hx) (fun j x u hx hu=>by
    simp only [List.getElem?_map,hu,Option.map_some,Option.some.injEq] at hx
    subst hx
    exact zh9 u)
   simpa using this
  ·exact .undef _
 ·rename_i vs
  have:=VRel.tup (C:=C) (vs:=vs.toList.map pv1) (us:=vs.toList) (by simp) (fun j x u hx hu=>by
   simp only [List.getElem?_map,hu,Option.map_some,Option.some.injEq] at hx
   subst hx
   exact zh9 u)
  simpa using this
 ·exact zh9 _
theorem zw (r:FRel C N F a) (x:Operand):VRel C (ev F x) (a.eval x):=by
 cases x with
 | tmp t=>exact r.2 t
 | const v=>exact zek v
 | global g=>exact .nl (g+3)
 | func f=>exact .func (us:=[]) (ws:=[]) rfl rfl (fun j x u hx=>by simp at hx) (fun j x u hx=>by simp at hx)
theorem zdL (r:FRel C N F a) (xs:List Operand):VRels C (xs.map (ev F)) (xs.map a.eval):=by
 refine ⟨by simp,fun j x u hx hu=> ?_⟩
 simp only [List.getElem?_map,Option.map_eq_some_iff] at hx hu
 obtain ⟨o,ho,rfl⟩:=hx
 obtain ⟨o',ho',rfl⟩:=hu
 rw [ho] at ho'
 injection ho' with ho'
 subst ho'
 exact zw r o
def OpOk (P:Program) (o:Oper) (a:Act) (w:World) (C:Ctx) (v:PV) (H':za):Prop:=
 ∃ C' u w',CLe C C'∧WRel C' H' w'∧Below C.B w w'∧VRel C' v u∧((execOp a.eval o).run P w= .ok (.value u) w'∨((execOp a.eval o).run P w= .ok .skip w'∧u=Go.undef))
theorem OpOk.pure {o:Oper} {v:PV} {u:Value} (hw:WRel C H w) (hv:VRel C v u) (hr:(execOp a.eval o).run P w= .ok (.value u) w):OpOk P o a w C v H:=
 ⟨C,u,w,.refl _,hw,.refl _ _,hv,.inl hr⟩
theorem zK {k:IntKind} {n:Int} {v:Value} (h:VRel C (.int k n) v):v= .int k n:=by cases h;rfl
theorem zaf {b:Bool} {v:Value} (h:VRel C (.bool b) v):v= .bool b:=by cases h;rfl
theorem zcD {v:Value} (h:VRel C .nilp v):v= .pointer none:=by cases h;rfl
theorem zbf {s:List UInt8} {v:Value} (h:VRel C (.str s) v):∃ t:ByteArray,v= .string t∧t.data.toList=s:=by cases h;exact ⟨_,rfl,rfl⟩
theorem zbw (hw:WRel C H w) {id ver:Nat} (h:zbd H id ver=true):C.vs[id]? =some ver∧∃ k,H[id]? =some k∧k.ver=ver:=by
 unfold zbd at h
 split at h
 ·rename_i k hk
  have q2:=hw.ver id k hk
  have:k.ver=ver:=by simpa using h
  exact ⟨this▸q2,k,hk,this⟩
 ·cases h
theorem zby (_hw:WRel C H w) {id ver off:Nat} {v:Value} (hv:VRel C (.ptr id ver off) v) (hl:C.vs[id]? =some ver):∃ b,C.mu[id]? =some (some b)∧v= .pointer (some ⟨b,off,none⟩):=by
 cases hv with
 | ptr hm _=>exact ⟨_,hm,rfl⟩
 | ptrS _ _ hv' hlt=>rw [hl] at hv';injection hv' with hv';omega
theorem zuz (_hw:WRel C H w) {id ver:Nat} {v:Value} (hv:VRel C (.mp id ver) v) (hl:C.vs[id]? =some ver):∃ b,C.mu[id]? =some none∧C.cp[id]? =some (b+1)∧v= .map (some b):=by
 cases hv with
 | mp hm _ hb=>exact ⟨_,hm,hb,rfl⟩
 | mpS _ _ hv' hlt=>rw [hl] at hv';injection hv' with hv';omega
theorem zbg (_hw:WRel C H w) {id ver off len sz:Nat} {g:Bool} {v:Value} (hv:VRel C (.msl id ver off len sz g) v) (hl:C.vs[id]? =some ver):
  (∃ b cap off',C.mu[id]? =some (some b)∧v= .slice (some ⟨b,off',none⟩) len cap∧len≤cap∧cap≤maxLen∧(0<len→off'=off)∧(g=true→off=0∧off'=0∧C.cp[id]? =some (cap * sz)))∨
  (∃ ad,(C.mu[id]? =some none∧C.cp[id]? =some 0)∧len=0∧v= .slice ad 0 0):=by
 cases hv with
 | msl hm _ hcap hmax hg=>exact .inl ⟨_,_,_,hm,rfl,hcap,hmax,fun _=>rfl,fun h=>⟨(hg h).1,(hg h).1,(hg h).2⟩⟩
 | mslG ad hm _=>exact .inr ⟨ad,hm,rfl,rfl⟩
 | mslE hm _ hmax=>exact .inl ⟨_,_,_,hm,rfl,Nat.zero_le _,hmax,fun h=>absurd h (by omega),fun h=>by cases h⟩
 | mslS _ _ hv' hlt=>rw [hl] at hv';injection hv' with hv';omega
theorem zkQ {op:BinOp} {k k':IntKind} {x y:Int} {v:PV} (t:TypeId) (h:zbc op k x k' y=some v):∃ u,VRel C v u∧(binOp op t (.int k x) (.int k' y)).run P w= .ok u w:=by
 cases op<;>simp only [zbc] at h<;>(repeat' split at h)<;>(try (cases h;done))<;>(injection h with h;subst h)
 all_goals first
  | (refine ⟨_,.int _ _,?_⟩;simp_all [binOp,Op.intArith,Op.intDiv,Op.intBits];done)
  | (refine ⟨_,.bool _,?_⟩;simp_all [binOp,Op.intCmp];done)
  | (refine ⟨_,.int _ _,?_⟩;rename_i hy;simp only [binOp,Op.shift];rw [if_neg hy];simp;done)
theorem zkR {op:BinOp} {t:TypeId} {x y:Operand} {k k':IntKind} {m n:Int}:(eqGuard op t x y (.int k m) (.int k' n)).run P w= .ok () w:=by
 cases op<;>simp [eqGuard]
theorem zkF {op:BinOp} {x y:ByteArray} {v:PV} (t:TypeId) (h:zru op x.data.toList y.data.toList=some v):∃ u,VRel C v u∧(binOp op t (.string x) (.string y)).run P w= .ok u w:=by
 have ex:=ByteArray.toList_eq x
 have ey:=ByteArray.toList_eq y
 cases op<;>simp only [zru] at h<;>(try (cases h;done))
 case add=>
  split at h
  ·rename_i hl
   injection h with h
   subst h
   refine ⟨.string (x++y),?_,?_⟩
   ·have:=VRel.str (C:=C) (x++y)
    rwa [ByteArray.data_append,Array.toList_append] at this
   ·have h1:x.size=x.data.toList.length:=by rw [Array.length_toList];rfl
    have h2:y.size=y.data.toList.length:=by rw [Array.length_toList];rfl
    simp [binOp,Op.stringOp]
    omega
  ·cases h
 all_goals
  injection h with h
  subst h
  exact ⟨_,.bool _,by simp [binOp,Op.stringOp,ex,ey]⟩
theorem zkG {op:BinOp} {t:TypeId} {x y:Operand} {p q:ByteArray}:(eqGuard op t x y (.string p) (.string q)).run P w= .ok () w:=by
 cases op<;>simp [eqGuard]
theorem zjH {op:BinOp} {t:TypeId} {x y:Operand} {p q:Bool}:(eqGuard op t x y (.bool p) (.bool q)).run P w= .ok () w:=by
 cases op<;>simp [eqGuard]
theorem zb6 {op:BinOp} {t:TypeId} {x y:Operand} {p q:Option Addr}:(eqGuard op t x y (.pointer p) (.pointer q)).run P w= .ok () w:=by
 cases op<;>simp [eqGuard]
theorem zbo {op:BinOp} {b:Bool} {v:PV} {t:TypeId} {x y:Value} (h:peq op b=some v) (he:(Op.equal t x y).run P w= .ok b w)
  (hop:∀ o:BinOp,(o= .eql∨o= .neq)→binOp o t x y=(match o with| .eql=>do pure (.bool (←Op.equal t x y))|_=>do pure (.bool (!(←Op.equal t x y))))):
  ∃ u,VRel C v u∧(binOp op t x y).run P w= .ok u w:=by
 cases op<;>simp only [peq] at h<;>(try (cases h;done))<;>(injection h with h;subst h)
 ·exact ⟨_,.bool _,by rw [hop .eql (.inl rfl)];simp [he]⟩
 ·exact ⟨_,.bool _,by rw [hop .neq (.inr rfl)];simp [he]⟩
theorem znm {t:TypeId} (h:zfS P t=true):P.underlying t=some .bool:=by
 unfold zfS at h
 split at h
 ·assumption
 ·cases h
theorem zdq {t:TypeId} (h:zdr P t=true):∃ e,P.underlying t=some (.pointer e):=by
 unfold zdr at h
 split at h
 ·exact ⟨_,by assumption⟩
 ·cases h
theorem ziF (d:Nat) {t e:TypeId} (hu:P.underlying t=some (.pointer e)) (p:Option Addr):(Op.equalIn (d+1) t (.pointer none) (.pointer p)).run P w= .ok p.isNone w:=by
 simp [Op.equalIn,run_underlying hu]
theorem zhm (d:Nat) {t e:TypeId} (hu:P.underlying t=some (.pointer e)) (p:Addr):(Op.equalIn (d+1) t (.pointer (some p)) (.pointer none)).run P w= .ok false w:=by
 simp [Op.equalIn,run_underlying hu]
theorem zd6 {t e:TypeId} (hu:P.underlying t=some (.pointer e)) (p:Option Addr):(Op.equal t (.pointer none) (.pointer p)).run P w= .ok p.isNone w:=ziF 9999 hu p
theorem zfx {t e:TypeId} (hu:P.underlying t=some (.pointer e)) (p:Addr):(Op.equal t (.pointer (some p)) (.pointer none)).run P w= .ok false w:=zhm 9999 hu p
theorem zkV {op:BinOp} {t:TypeId} {x y:PV} {p q:Value} {v:PV} (X Y:Operand) (hw:WRel C H w) (hx:VRel C x p) (hy:VRel C y q) (h:ze5 P H op t x y=some v):
  ∃ u,VRel C v u∧(do eqGuard op t X Y p q;binOp op t p q:Sem Value).run P w= .ok u w:=by
 unfold ze5 at h
 split at h
 ·obtain rfl:=zK hx
  obtain rfl:=zK hy
  obtain ⟨u,hu,hr⟩:=zkQ (P:=P) (C:=C) (w:=w) t h
  exact ⟨u,hu,by rw [Sem.run_bind,zkR,Result.andThen_ok,hr]⟩
 ·obtain ⟨s,rfl,rfl⟩:=zbf hx
  obtain ⟨s',rfl,rfl⟩:=zbf hy
  obtain ⟨u,hu,hr⟩:=zkF (P:=P) (C:=C) (w:=w) t h
  exact ⟨u,hu,by rw [Sem.run_bind,zkG,Result.andThen_ok,hr]⟩
 ·obtain rfl:=zaf hx
  obtain rfl:=zaf hy
  split at h
  ·rename_i hb
   obtain ⟨u,hu,hr⟩:=zbo (P:=P) (C:=C) (w:=w) h (run_equal_bool w t _ _ (znm hb)) (fun o ho=>by rcases ho with rfl|rfl<;>rfl)
   exact ⟨u,hu,by rw [Sem.run_bind,zjH,Result.andThen_ok,hr]⟩
  ·cases h
 ·obtain rfl:=zcD hx
  obtain rfl:=zcD hy
  split at h
  ·rename_i hb
   obtain ⟨e,he⟩:=zdq hb
   obtain ⟨u,hu,hr⟩:=zbo (P:=P) (C:=C) (w:=w) h (zd6 he none) (fun o ho=>by rcases ho with rfl|rfl<;>rfl)
   exact ⟨u,hu,by rw [Sem.run_bind,zb6,Result.andThen_ok,hr]⟩
  ·cases h
 ·split at h
  ·rename_i hb
   simp only [Bool.and_eq_true] at hb
   obtain ⟨e,he⟩:=zdq hb.1
   obtain ⟨b,_,rfl⟩:=zby hw hx (zbw hw hb.2).1
   obtain rfl:=zcD hy
   obtain ⟨u,hu,hr⟩:=zbo (P:=P) (C:=C) (w:=w) h (zfx he _) (fun o ho=>by rcases ho with rfl|rfl<;>rfl)
   exact ⟨u,hu,by rw [Sem.run_bind,zb6,Result.andThen_ok,hr]⟩
  ·cases h
 ·split at h
  ·rename_i hb
   simp only [Bool.and_eq_true] at hb
   obtain ⟨e,he⟩:=zdq hb.1
   obtain ⟨b,_,rfl⟩:=zby hw hy (zbw hw hb.2).1
   obtain rfl:=zcD hx
   obtain ⟨u,hu,hr⟩:=zbo (P:=P) (C:=C) (w:=w) h (show (Op.equal t (.pointer none) (.pointer (some _))).run P w= .ok false w from zd6 he (some _)) (fun o ho=>by rcases ho with rfl|rfl<;>rfl)
   exact ⟨u,hu,by rw [Sem.run_bind,zb6,Result.andThen_ok,hr]⟩
  ·cases h
 ·split at h
  ·rename_i hb
   obtain ⟨e,he⟩:=zdq hb
   obtain rfl:=zcD hy
   cases hx
   obtain ⟨u,hu,hr⟩:=zbo (P:=P) (C:=C) (w:=w) h (zfx he _) (fun o ho=>by rcases ho with rfl|rfl<;>rfl)
   exact ⟨u,hu,by rw [Sem.run_bind,zb6,Result.andThen_ok,hr]⟩
  ·cases h
 ·split at h
  ·rename_i hb
   obtain ⟨e,he⟩:=zdq hb
   obtain rfl:=zcD hx
   cases hy
   obtain ⟨u,hu,hr⟩:=zbo (P:=P) (C:=C) (w:=w) h (show (Op.equal t (.pointer none) (.pointer (some _))).run P w= .ok false w from zd6 he (some _)) (fun o ho=>by rcases ho with rfl|rfl<;>rfl)
   exact ⟨u,hu,by rw [Sem.run_bind,zb6,Result.andThen_ok,hr]⟩
  ·cases h
 ·cases h
theorem zm2 {op:UnOp} {x v:PV} {p:Value} (hx:VRel C x p) (h:pun op x=some v):∃ u,VRel C v u∧(Op.unary op p).run P w= .ok u w:=by
 unfold pun at h
 split at h
 ·obtain rfl:=zK hx
  injection h with h
  subst h
  exact ⟨_,.int _ _,by simp [Op.unary,Op.intArith]⟩
 ·obtain rfl:=zK hx
  injection h with h
  subst h
  exact ⟨_,.int _ _,by simp [Op.unary,Op.intBits]⟩
 ·obtain rfl:=zaf hx
  injection h with h
  subst h
  exact ⟨_,.bool _,by simp [Op.unary]⟩
 ·cases h
end Go.Proofs.YtjgmdlcjbgiekaaGreatDoor.Pm
