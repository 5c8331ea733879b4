/- A small machine of values: Go code of this program, run on data instead of memory. It only defines; nothing is proved here. -/
import Derived.OrdersIn
import Derived.RangeFuncLeaves
set_option linter.unusedVariables false
set_option linter.unusedSimpArgs false
namespace Go.Proofs.Ytleggocccaeemaa.Vm
open Go
inductive PV where
 | int (k:IntKind) (n:Int)
 | bool (b:Bool)
 | str (s:ByteArray)
 | agg (cs:List PV)
 | tup (vs:List PV)
 | nils
 | slice (hot:Bool) (sz:Nat) (es:List (List PV))
 | nilp
 | ptr (hot:Bool) (cs:List PV) (off:Nat)
 | func (f:Nat) (caps:List PV)
 | nilf
 | meth (f:Nat) (first:List PV)
 deriving Inhabited
inductive AV where
 | undef
 | pure (p:PV)
 | box (id off:Nat)
 | row (id sz off len:Nat)
 | agg (cs:List AV)
 | tup (vs:List AV)
 | func (f:Nat) (caps:List AV)
 | yield (id:Nat)
 | void (id sz:Nat)
 | mapv (id:Nat)
 | rowc (id sz off len:Nat)
 deriving Inhabited
inductive Opnd where
 | tmp (t:Nat)
 | const (p:PV)
 deriving Inhabited
inductive EqK where
 | num
 | bool
 | slice
 | pointer
 | func
inductive VOp where
 | mov (x:Opnd)
 | pick (c a b:Opnd)
 | alloc (zero:List PV)
 | box (x:Opnd)
 | build (zero:List PV) (parts:List (Nat×Nat×Opnd))
 | buildSlice (sz:Nat) (zero:List PV) (parts:List (Nat×Nat×Opnd))
 | load (agg:Bool) (size:Nat) (x:Opnd)
 | store (size:Nat) (a x:Opnd)
 | nilCheck (x:Opnd)
 | bin (op:BinOp) (d:EqK) (x y:Opnd)
 | aggEq (neg:Bool) (size:Nat) (offs:List Nat) (x y:Opnd)
 | un (op:UnOp) (x:Opnd)
 | toInt (k:IntKind) (x:Opnd)
 | strSame (x:Opnd)
 | toBytes (x:Opnd)
 | toStr (x:Opnd)
 | makeFunc (f:Nat) (caps:List Opnd)
 | makeMeth (f:Nat) (first:List Opnd)
 | makeSlice (sz bytes:Nat) (zero:List PV) (l c:Opnd)
 | slice (sz:Nat) (x:Opnd) (lo hi:Option Opnd)
 | substr (x:Opnd) (lo hi:Option Opnd)
 | fieldAddr (off:Nat) (x:Opnd)
 | field (off size:Nat) (agg:Bool) (x:Opnd)
 | indexAddr (sz:Nat) (arr:Option Nat) (x i:Opnd)
 | index (sz len:Nat) (agg:Bool) (x i:Opnd)
 | byteAt (x i:Opnd)
 | extract (i:Nat) (x:Opnd)
 | call (f:Opnd) (args:List Opnd)
 | lenArr (n:Nat)
 | lenStr (x:Opnd)
 | lenSl (x:Opnd)
 | append (sz bytes:Nat) (a b:Opnd)
 | minmax (mx:Bool) (xs:List Opnd)
 | clear (zero:List PV) (x:Opnd)
 | slice3 (sz:Nat) (x:Opnd) (lo:Option Opnd) (hi mx:Opnd)
 | capSl (x:Opnd)
 | boxF (x:Opnd)
 | idle (i:Nat) (x:Opnd)
 | appendZ (sz bytes:Nat) (zero:List PV) (a n:Opnd)
 | movL (x:Opnd)
 | sliceL (sz:Nat) (x:Opnd) (lo hi:Option Opnd)
 | voidSlice (sz:Nat)
 | appendE (sz bytes:Nat) (a b:Opnd)
 | allocR (zero:List PV)
 | storeI (size:Nat) (a x:Opnd)
 | makeMap
 | lookup (str:Bool) (zero:PV) (ok:Bool) (m k:Opnd)
 | mapPut (str:Bool) (m k x:Opnd)
 | lenMap (x:Opnd)
 | fieldL (off:Nat) (x:Opnd)
 | loadL (agg:Bool) (size:Nat) (x:Opnd)
 | storeE (size:Nat) (a x:Opnd) (ls:List Opnd)
 | loadP (agg:Bool) (size:Nat) (x:Opnd)
 | buildF (sz:Nat) (zero:List PV) (parts:List (Nat×Nat×Opnd))
 | callE (f:Opnd) (args ls:List Opnd)
 | buildL (zero:List PV) (parts:List (Nat×Nat×Opnd))
 | appB (sz bytes:Nat) (a b:Opnd) (ls:List Opnd)
 | callD (f:Opnd) (args:List Opnd)
 | stuck
structure VOper where
 dst:Option Nat
 op:VOp
 guard:Option (Option Nat×Bool)
inductive VCode where
 | skip
 | region (pre:Option Nat) (ops:List VOper)
 | seq (a b:VCode)
 | cond (c:Opnd) (a b:VCode)
 | block (id:Nat) (c:VCode)
 | loop (c:VCode)
 | rangeFunc (f:Opnd) (params:List Nat) (assign body:VCode)
 | exit (id:Nat)
 | ret
def VCode.noRange:VCode->Bool
 | .rangeFunc _ _ _ _=>false
 | .seq a b|.cond _ a b=>a.noRange&&b.noRange
 | .block _ c|.loop c=>c.noRange
 | _=>true
inductive VExit where
 | normal
 | exit (id:Nat)
 | ret
inductive VRes where
 | tmp (t:Nat)
 | cell (t:Nat) (size:Nat) (agg:Bool)
structure VFunc where
 nargs:Nat
 ntmps:Nat
 results:List VRes
 body:VCode
abbrev Env:=Nat->AV
inductive LState where
 | ready
 | busy
 | done
structure LoopR where
 env:Env
 params:List Nat
 assign:VCode
 body:VCode
 state:LState
 pending:VExit
inductive AObj where
 | dead
 | cells (own:Bool) (cs:List AV)
 | loop (r:LoopR)
 | raw (zero:List PV)
 | mapo (es:List (PV×PV))
structure Heap where
 nx:Nat
 arr:Nat->AObj
def Heap.get (H:Heap) (id:Nat):AObj:=if id < H.nx then H.arr id else .dead
def Heap.empty:Heap:=⟨0,fun _=>.dead⟩
def upd {α:Type} (f:Nat->α) (i:Nat) (v:α):Nat->α:=fun j=>if j=i then v else f j
def Heap.alloc (H:Heap) (o:AObj):Heap:=⟨H.nx+1,upd H.arr H.nx o⟩
def Heap.set (H:Heap) (id:Nat) (o:AObj):Heap:=⟨H.nx,upd H.arr id o⟩
def AObj.freeze:AObj->AObj
 | .cells _ cs=>.cells false cs
 | o=>o
def Heap.freeze (H:Heap) (ids:List Nat):Heap:=⟨H.nx,fun i=>if ids.contains i then (H.arr i).freeze else H.arr i⟩
def zaq {α:Type} (f:Nat->α) (d:Option Nat) (v:α):Nat->α :=
 match d with
 | some i=>upd f i v
 | none=>f
def Opnd.eval (env:Env):Opnd->AV
 | .tmp t=>env t
 | .const p=>.pure p
def AV.cells:AV->List AV
 | .undef=>[]
 | .pure (.agg ps)=>ps.map .pure
 | .agg cs=>cs
 | v=>[v]
def AV.one:AV->Bool
 | .undef|.agg _|.tup _|.pure (.agg _)|.pure (.tup _)=>false
 | _=>true
def zbE:AV->Bool
 | .agg _|.pure (.agg _)=>true
 | _=>false
def PV.one:PV->Bool
 | .agg _|.tup _=>false
 | _=>true
def zad:List AV->Option (List PV)
 | []=>some []
 | .pure p::vs=>(zad vs).map (p :: ·)
 | _=>none
def aggV (cs:List AV):AV:=match zad cs with
 | some ps=>.pure (.agg ps)
 | none=>.agg cs
def zff (f:Nat) (cs:List AV):AV:=match zad cs with
 | some ps=>.pure (.func f ps)
 | none=>.func f cs
def zae (agg:Bool):List AV->Option AV
 | cs=>if agg then some (aggV cs) else match cs with
  | [c]=>some c
  | _=>none
def PV.scalar:PV->Bool
 | .int _ _|.bool _|.str _|.nils|.nilp|.nilf=>true
 | .slice _ _ []=>true
 | _=>false
def PV.coldN:Nat->PV->Bool
 | 0,_=>false
 | n+1,p=>match p with
  | .agg cs|.tup cs|.func _ cs|.meth _ cs=>cs.all (PV.coldN n)
  | .slice h _ es=>es.isEmpty||(!h&&es.all fun e=>e.all (PV.coldN n))
  | .ptr h cs _=>!h&&cs.all (PV.coldN n)
  | _=>true
def PV.cold (p:PV):Bool:=p.coldN 12
def chunks {α:Type} (sz:Nat):Nat->List α->List (List α)
 | 0,_=>[]
 | n+1,l=>l.take sz::chunks sz n (l.drop sz)
def zK (fr:AV->Option (PV×List Nat)):List AV->Option (List PV×List Nat)
 | []=>some ([],[])
 | v::vs=>match fr v with
  | none=>none
  | some (p,is)=>match zK fr vs with
   | none=>none
   | some (ps,js)=>some (p::ps,is++js)
def freeze (H:Heap) (k:Bool):Nat->AV->Option (PV×List Nat)
 | 0,_=>none
 | n+1,v=>match v with
  | .pure p=>some (p,[])
  | .agg cs=>match zK (freeze H k n) cs with
   | some (ps,is)=>some (.agg ps,is)
   | none=>none
  | .tup cs=>match zK (freeze H k n) cs with
   | some (ps,is)=>some (.tup ps,is)
   | none=>none
  | .func f cs=>match zK (freeze H k n) cs with
   | some (ps,is)=>some (.func f ps,is)
   | none=>none
  | .box id off=>match H.get id with
   | .cells _ cs=>match zK (freeze H k n) cs with
    | some (ps,is)=>some (.ptr k ps off,id::is)
    | none=>none
   | _=>none
  | .row id sz off len=>match H.get id with
   | .cells _ cs=>match zK (freeze H k n) ((cs.drop (off*sz)).take (len*sz)) with
    | some (ps,is)=>if ps.length=len*sz then some (.slice k sz (chunks sz len ps),id::is) else none
    | none=>none
   | _=>none
  | .rowc id sz off len=>match H.get id with
   | .cells _ cs=>match zK (freeze H k n) ((cs.drop (off*sz)).take (len*sz)) with
    | some (ps,is)=>if ps.length=len*sz then some (.slice k sz (chunks sz len ps),id::is) else none
    | none=>none
   | _=>none
  | _=>none
def zab:Nat:=12
def zc8:AV->Option UInt8
 | .pure (.int .u8 n)=>some (UInt8.ofNat n.toNat)
 | _=>none
inductive Eff where
 | val (v:AV)
 | new (o:AObj) (v:Nat->AV)
 | upd (v:AV) (H:Heap)
structure Callee where
 pure:Nat->List PV->Option PV
 shared:Nat->Bool
 run:Nat->List AV->Heap->Option (AV×Heap)
 yield:Nat->List AV->Heap->Option (AV×Heap)
def zgd (str:Bool):PV->PV->Option Bool
 | .int k a,.int k' b=>if str=false/\k=k' then some (a == b) else none
 | .str a,.str b=>if str=true then some (a.data.toList == b.data.toList) else none
 | _,_=>none
def zek (str:Bool) (key:PV):List (PV×PV)->Option (Option PV)
 | []=>some none
 | (k,v)::es=>match zgd str key k with
  | some true=>some (some v)
  | some false=>zek str key es
  | none=>none
def zfB (str:Bool) (key v:PV):List (PV×PV)->Option (List (PV×PV))
 | []=>some [(key,v)]
 | (k,u)::es=>match zgd str key k with
  | some true=>some ((key,v)::es)
  | some false=>match zfB str key v es with
   | some es'=>some ((k,u)::es')
   | none=>none
  | none=>none
def fill:List AV->List (Nat×Nat×AV)->Option (List AV)
 | cs,[]=>some cs
 | cs,(off,size,v)::rest =>
  let vs:=v.cells
  if vs.length=size/\size≠0/\off+size<=cs.length then fill (cs.take off++vs++cs.drop (off+size)) rest else none
def zV (env:Env) (ps:List (Nat×Nat×Opnd)):List (Nat×Nat×AV):=ps.map fun (o,s,x)=>(o,s,x.eval env)
def zcW (op:BinOp) (x y:Int):Option Bool :=
 match op with
 | .eql=>some (x == y)
 | .neq=>some (x != y)
 | .lss=>some (decide (x < y))
 | .leq=>some (decide (x<=y))
 | .gtr=>some (decide (x > y))
 | .geq=>some (decide (x ≥ y))
 | _=>none
def zbG (op:BinOp) (k:IntKind) (x y:Int):Option PV :=
 match op with
 | .add=>some (.int k (k.wrap (x+y)))
 | .sub=>some (.int k (k.wrap (x - y)))
 | .mul=>some (.int k (k.wrap (x*y)))
 | .quo=>if y=0 then none else some (.int k (k.wrap (x.tdiv y)))
 | .rem=>if y=0 then none else some (.int k (x.tmod y))
 | .and=>some (.int k (k.wrap (BitVec.ofInt k.bits x &&& BitVec.ofInt k.bits y).toNat))
 | .or=>some (.int k (k.wrap (BitVec.ofInt k.bits x ||| BitVec.ofInt k.bits y).toNat))
 | .xor=>some (.int k (k.wrap (BitVec.ofInt k.bits x ^^^ BitVec.ofInt k.bits y).toNat))
 | .andNot=>some (.int k (k.wrap (BitVec.ofInt k.bits x &&& ~~~BitVec.ofInt k.bits y).toNat))
 | _=>(zcW op x y).map .bool
def ze5 (op:BinOp) (k:IntKind) (x y:Int):Option PV :=
 if y < 0 then none else
 match op with
 | .shl=>some (.int k (k.wrap (x*2 ^ (min y.toNat k.bits))))
 | .shr=>some (.int k (x.fdiv (2 ^ (min y.toNat k.bits))))
 | _=>none
def ziu (op:BinOp) (x y:ByteArray):Option PV :=
 match op with
 | .eql=>some (.bool (x.toList == y.toList))
 | .neq=>some (.bool (!(x.toList == y.toList)))
 | .lss=>some (.bool (Op.bytesLess x.toList y.toList))
 | .add=>if x.size+y.size<=4294967296 then some (.str (x++y)) else none
 | _=>none
def isNil (d:EqK):AV->Option Bool
 | .pure .nils=>if d matches .slice then some true else none
 | .pure .nilp=>if d matches .pointer then some true else none
 | .pure .nilf=>if d matches .func then some true else none
 | .pure (.slice _ _ _)|.row _ _ _ _=>if d matches .slice then some false else none
 | .pure (.ptr _ _ _)|.box _ _=>if d matches .pointer then some false else none
 | .pure (.func _ _)|.func _ _=>if d matches .func then some false else none
 | _=>none
def eqB (d:EqK) (x y:AV):Option Bool :=
 match isNil d x,isNil d y with
 | some true,some b=>some b
 | some false,some true=>some false
 | some false,some false=>none
 | _,_=>match d,x,y with
  | .bool,.pure (.bool a),.pure (.bool b)=>some (a == b)
  | _,_,_=>none
def vbin (op:BinOp) (d:EqK) (x y:AV):Option AV :=
 match x,y with
 | .pure (.int k a),.pure (.int k' b) =>
  if op=.shl\/op=.shr then (ze5 op k a b).map .pure else
  if k=k' then (zbG op k a b).map .pure else none
 | .pure (.str a),.pure (.str b)=>(ziu op a b).map .pure
 | x,y=>match op with
  | .eql=>(eqB d x y).map fun b=>.pure (.bool b)
  | .neq=>(eqB d x y).map fun b=>.pure (.bool (!b))
  | _=>none
def vun (op:UnOp) (x:AV):Option AV :=
 match op,x with
 | .not,.pure (.bool b)=>some (.pure (.bool (!b)))
 | .neg,.pure (.int k n)=>some (.pure (.int k (k.wrap (0 - n))))
 | _,_=>none
def zaC:List AV->List AV->List Nat->Option Bool
 | _,_,[]=>some true
 | xs,ys,o::os=>if o < 500000 then (match xs[o]?,ys[o]? with
  | some (.pure (.int k a)),some (.pure (.int k' b))=>if k=k' then (if a == b then zaC xs ys os else some false) else none
  | _,_=>none)
  else (match xs[o - 500000]?,ys[o - 500000]? with
  | some (.pure (.bool a)),some (.pure (.bool b))=>if a == b then zaC xs ys os else some false
  | _,_=>none)
def zgw (i:Int) (n:Nat):Option Nat:=if 0<=i/\i<=n then some i.toNat else none
def bound (env:Env) (n dflt:Nat):Option Opnd->Option Nat
 | none=>some dflt
 | some x=>match x.eval env with
  | .pure (.int _ i)=>zgw i n
  | _=>none
def zbS (mx:Bool) (k:IntKind):Int->List AV->Option Int
 | a,[]=>some a
 | a,.pure (.int _ b)::rest=>zbS mx k (if mx then (if b > a then b else a) else (if b < a then b else a)) rest
 | _,_=>none
def zJ (H:Heap) (sz:Nat):AV->Option (List AV×Nat)
 | .pure .nils=>some ([],0)
 | .pure (.slice _ _ es)=>if es.all (fun e=>e.length == sz) then some (es.flatten.map .pure,es.length) else none
 | .row id s off len=>if s=sz then match H.get id with
   | .cells _ cs=>if off*sz+len*sz<=cs.length then some ((cs.drop (off*sz)).take (len*sz),len) else none
   | _=>none else none
 | _=>none
def zn:Nat:=8796093022208
def zgz (H:Heap) (id sz off len:Nat):Option Nat :=
 match H.get id with
 | .cells _ cs=>some (max len (cs.length / sz - off))
 | _=>none
def zfj:AV->Option Nat
 | .pure .nils=>some 0
 | .pure (.slice _ _ es)=>some es.length
 | .row _ _ _ len=>some len
 | _=>none
def zi (H:Heap) (sz bytes:Nat) (a b:AV):Option Eff :=
 match zJ H sz b with
 | none=>none
 | some (new,m) =>
  if !new.all AV.one then none else
  match a with
  | .pure .nils =>
   if m=0 then some (.val (.pure .nils)) else
   if m*sz<=zn/\m*bytes<=zn then some (.new (.cells true new) fun id=>.row id sz 0 m) else none
  | .row id s off n =>
   if s=sz then match H.get id with
    | .cells true cs =>
     if off*sz+(n+m)*sz<=cs.length then
      some (.upd (.row id sz off (n+m)) (H.set id (.cells true (cs.take (off*sz+n*sz)++new++cs.drop (off*sz+(n+m)*sz)))))
     else if off=0/\n*sz=cs.length/\(n+m)*sz<=zn/\(n+m)*bytes<=zn then
      some (.upd (.row H.nx sz 0 (n+m)) ((H.set id .dead).alloc (.cells true (cs++new))))
     else none
    | _=>none
   else none
  | .rowc id s off n =>
   if s=sz then
    if m=0 then some (.val (.rowc id s off n)) else
    match H.get id with
    | .cells _ cs =>
     if off*sz+n*sz<=cs.length/\(n+m)*sz<=zn/\(n+m)*bytes<=zn then
      some (.new (.cells true ((cs.drop (off*sz)).take (n*sz)++new)) fun id'=>.row id' sz 0 (n+m))
     else none
    | _=>none
   else none
  | _=>none
def cut3 (sz:Nat) (lo:Option Opnd) (h m:Nat):AV->AV
 | .row id s off _=>if s=sz/\h=m/\lo.isNone=true then .rowc id s off h else .undef
 | _=>.undef
def zM (cl:Callee) (H:Heap) (f:AV) (args:List AV):Option Eff :=
 let go (g:Nat) (xs:List AV):Option Eff :=
  if cl.shared g then
   match cl.run g xs H with
   | some (v,H')=>some (.upd v H')
   | none=>none
  else
   match zK (freeze H true zab) xs with
   | none=>none
   | some (ps,ids) =>
    match cl.pure g ps with
    | none=>none
    | some r=>if ids.isEmpty||r.cold then some (.val (.pure r)) else some (.upd (.pure r) (H.freeze ids))
 match f with
 | .pure (.func g caps)=>go g (args++caps.map .pure)
 | .func g caps=>go g (args++caps)
 | .pure (.meth g first)=>go g (first.map .pure++(args++[]))
 | .yield id=>match cl.yield id args H with
  | some (v,H')=>some (.upd v H')
  | none=>none
 | _=>none
def zH (H:Heap) (size:Nat):AV->Option (List AV)
 | .pure (.ptr _ cs off)=>if off+size<=cs.length then some (((cs.drop off).take size).map .pure) else none
 | .box id off=>match H.get id with
  | .cells _ cs=>if off+size<=cs.length then some ((cs.drop off).take size) else none
  | _=>none
 | _=>none
def beside (id:Nat):AV->Bool
 | .box i _=>i != id
 | _=>true
def PV.plainEq:PV->PV->Bool
 | .int k a,.int k' b=>decide (k=k')&&a == b
 | .bool a,.bool b=>a == b
 | _,_=>false
def all2 {α:Type} (f:α->α->Bool):List α->List α->Bool
 | [],[]=>true
 | a::l,b::m=>f a b&&all2 f l m
 | _,_=>false
def PV.sameN:Nat->PV->PV->Bool
 | 0,_,_=>false
 | n+1,p,q=>match p with
  | .slice h s es=>(match q with
   | .slice h' s' es'=>h == h'&&s == s'&&all2 (all2 (PV.sameN n)) es es'
   | _=>false)
  | .ptr h cs o=>(match q with
   | .ptr h' cs' o'=>h == h'&&o == o'&&all2 (PV.sameN n) cs cs'
   | _=>false)
  | .nils=>(match q with
   | .nils=>true
   | _=>false)
  | p=>p.plainEq q
def AV.sameCap:AV->AV->Bool
 | .pure p,.pure q=>PV.sameN 6 p q
 | .box i o,.box j q=>i == j&&o == q
 | _,_=>false
def zbs:List AV->List AV->Bool
 | [],[]=>true
 | .pure p::l,.pure q::m=>p.plainEq q&&zbs l m
 | .func f cs::l,.func g ds::m=>f == g&&all2 AV.sameCap cs ds&&zbs l m
 | _,_=>false
def keeps (H H2:Heap):AV->Bool
 | .box id _=>match H.get id,H2.get id with
  | .cells o cs,.cells o2 cs2=>o == o2&&zbs cs cs2
  | _,_=>false
 | _=>false
def zed:AV->AV->Bool
 | .row rid _ _ _,.box id _=>id != rid
 | .pure .nils,.box _ _=>true
 | _,_=>false
def AV.plain:AV->Bool
 | .pure p=>p.scalar
 | _=>false
def zeP (tk:AV->List Nat->Option (AV×List Nat)):List AV->List Nat->Option (List AV×List Nat)
 | [],L=>some ([],L)
 | v::vs,L=>match tk v L with
  | none=>none
  | some (u,L1)=>match zeP tk vs L1 with
   | none=>none
   | some (us,L2)=>some (u::us,L2)
def zaH (H1:Heap) (nx:Nat):Nat->AV->List Nat->Option (AV×List Nat)
 | 0,_,_=>none
 | n+1,v,L=>match v with
  | .pure p=>if p.cold then some (.pure p,L) else none
  | .row id sz off len=>match H1.get id with
   | .cells true cs=>if cs.all AV.plain=true/\id ∉ L then some (.row (nx+L.length) sz off len,L++[id]) else none
   | _=>none
  | .agg cs=>match zeP (zaH H1 nx n) cs L with
   | some (us,L')=>some (.agg us,L')
   | none=>none
  | .tup cs=>match zeP (zaH H1 nx n) cs L with
   | some (us,L')=>some (.tup us,L')
   | none=>none
  | _=>none
def Heap.adopt (H H1:Heap):List Nat->Heap
 | []=>H
 | id::L=>Heap.adopt (H.alloc (H1.get id)) H1 L
def zb6 (cl:Callee) (H:Heap) (f:AV) (args:List AV):Option Eff :=
 match f with
 | .pure (.func g caps)=>match zK (freeze H true zab) (args++caps.map .pure) with
  | none=>none
  | some (ps,_)=>match cl.run g (ps.map .pure) Heap.empty with
   | none=>none
   | some (v,H1)=>match zaH H1 H.nx 4 v [] with
    | none=>none
    | some (u,L)=>some (.upd u (H.adopt H1 L))
 | _=>none
def zjm (sz n:Nat):Nat:=if sz=0 then 0 else n / sz
def step (cl:Callee) (env:Env) (H:Heap):VOp->Option Eff
 | .mov x=>some (.val (x.eval env))
 | .pick c a b=>match c.eval env with
  | .pure (.bool t)=>some (.val (if t then a.eval env else b.eval env))
  | _=>none
 | .alloc zero=>some (.new (.cells true (zero.map .pure)) fun id=>.box id 0)
 | .box x=>some (.new (.cells true (x.eval env).cells) fun id=>.box id 0)
 | .build zero parts=>match fill (zero.map .pure) (zV env parts) with
  | some cs=>some (.val (aggV cs))
  | none=>none
 | .buildSlice sz zero parts=>match fill (zero.map .pure) (zV env parts) with
  | some cs=>some (.new (.cells true cs) fun id=>.row id sz 0 (if sz=0 then 0 else cs.length / sz))
  | none=>none
 | .buildL zero parts=>match fill (zero.map .pure) (zV env parts) with
  | some cs=>some (.val (aggV cs))
  | none=>none
 | .buildF sz zero parts=>match fill (zero.map .pure) (zV env parts) with
  | some cs=>match zad cs with
   | some ps=>if ps.length=zjm sz cs.length*sz then some (.val (.pure (.slice false sz (chunks sz (zjm sz cs.length) ps)))) else none
   | none=>none
  | none=>none
 | .load agg size x=>match zH H size (x.eval env) with
  | some cs=>(zae agg cs).map .val
  | none=>none
 | .store size a x=>match a.eval env with
  | .box id off=>match H.get id with
   | .cells true cs =>
    let vs:=(x.eval env).cells
    if vs.length=size/\size≠0/\vs.all AV.one=true/\off+size<=cs.length then
     some (.upd (.tup []) (H.set id (.cells true (cs.take off++vs++cs.drop (off+size)))))
    else none
   | _=>none
  | _=>none
 | .loadP agg size x=>match x.eval env with
  | .pure (.ptr _ cs off)=>if off+size<=cs.length then (zae agg (((cs.drop off).take size).map .pure)).map .val else none
  | _=>none
 | .storeE size a x ls=>match a.eval env with
  | .box id off=>if ls.all (fun l=>beside id (l.eval env))=true then match H.get id with
   | .cells true cs =>
    let vs:=(x.eval env).cells
    if vs.length=size/\size≠0/\vs.all AV.one=true/\off+size<=cs.length then
     some (.upd (.tup []) (H.set id (.cells true (cs.take off++vs++cs.drop (off+size)))))
    else none
   | _=>none else none
  | _=>none
 | .nilCheck x=>match isNil .pointer (x.eval env),isNil .func (x.eval env) with
  | some false,_|_,some false=>some (.val (x.eval env))
  | _,_=>none
 | .bin op d x y=>(vbin op d (x.eval env) (y.eval env)).map .val
 | .aggEq neg size offs x y =>
  if zbE (x.eval env)=true/\zbE (y.eval env)=true/\(x.eval env).cells.length=size/\(y.eval env).cells.length=size then
   match zaC (x.eval env).cells (y.eval env).cells offs with
   | some b=>some (.val (.pure (.bool (b != neg))))
   | none=>none
  else none
 | .un op x=>(vun op (x.eval env)).map .val
 | .toInt k x=>match x.eval env with
  | .pure (.int _ n)=>some (.val (.pure (.int k (k.wrap n))))
  | _=>none
 | .strSame x=>match x.eval env with
  | .pure (.str s)=>some (.val (.pure (.str s)))
  | _=>none
 | .toBytes x=>match x.eval env with
  | .pure (.str s)=>some (.new (.cells true (s.data.toList.map fun b=>.pure (.int .u8 b.toNat))) fun id=>.row id 1 0 s.size)
  | _=>none
 | .toStr x=>match zJ H 1 (x.eval env) with
  | some (cs,_)=>match cs.mapM zc8 with
   | some bs=>some (.val (.pure (.str ⟨bs.toArray⟩)))
   | none=>none
  | none=>none
 | .makeFunc f caps=>some (.val (zff f (caps.map (·.eval env))))
 | .makeMeth f first=>match zad (first.map (·.eval env)) with
  | some ps=>some (.val (.pure (.meth f ps)))
  | none=>none
 | .makeSlice sz bytes zero l c=>match l.eval env,c.eval env with
  | .pure (.int _ a),.pure (.int _ b) =>
   if 0<=a/\a=b/\a.toNat*sz<=zn/\a.toNat*bytes<=zn/\a.toNat<=zn then
    some (.new (.cells true ((List.replicate a.toNat (zero.map AV.pure)).flatten)) fun id=>.row id sz 0 a.toNat)
   else none
  | _,_=>none
 | .slice sz x lo hi=>match x.eval env with
  | .pure .nils=>match bound env 0 0 hi with
   | some _=>match bound env 0 0 lo with
    | some _=>some (.val (.pure .nils))
    | none=>none
   | none=>none
  | .pure (.slice k s es)=>if s=sz then match bound env es.length es.length hi with
   | some h=>match bound env h 0 lo with
    | some l=>some (.val (.pure (.slice k sz ((es.take h).drop l))))
    | none=>none
   | none=>none else none
  | .row id s off len=>if s=sz then match zgz H id sz off len with
   | some N=>match bound env N len hi with
    | some h=>match bound env h 0 lo with
     | some l=>some (.val (if l≠0/\h=l then .pure (.slice false sz []) else .row id sz (off+l) (h - l)))
     | none=>none
    | none=>none
   | none=>none else none
  | _=>none
 | .slice3 sz x lo hi mx=>match zfj (x.eval env) with
  | some len=>match bound env len len (some mx) with
   | some m=>match bound env m m (some hi) with
    | some h=>match bound env h 0 lo with
     | some _=>some (.val (cut3 sz lo h m (x.eval env)))
     | none=>none
    | none=>none
   | none=>none
  | none=>none
 | .capSl x=>match x.eval env with
  | .pure .nils=>some (.val (.pure (.int .i64 0)))
  | _=>none
 | .boxF x=>match zad (x.eval env).cells with
  | some ps=>some (.val (.pure (.ptr false ps 0)))
  | none=>none
 | .idle i x=>match x.eval env with
  | .pure (.tup vs)=>match vs[i]? with
   | some _=>some (.val .undef)
   | none=>none
  | .tup vs=>match vs[i]? with
   | some _=>some (.val .undef)
   | none=>none
  | _=>none
 | .appendZ sz bytes zero a n=>match a.eval env,n.eval env with
  | .pure .nils,.pure (.int _ k) =>
   if 0<=k/\k.toNat*sz<=zn/\k.toNat*bytes<=zn/\k.toNat<=zn then
    if k=0 then some (.val (.pure .nils)) else some (.new (.cells true ((List.replicate k.toNat (zero.map AV.pure)).flatten)) fun id=>.row id sz 0 k.toNat)
   else none
  | _,_=>none
 | .movL x=>some (.val (x.eval env))
 | .sliceL sz x lo hi=>match x.eval env with
  | .pure .nils=>match bound env 0 0 hi with
   | some _=>match bound env 0 0 lo with
    | some _=>some (.val (.pure .nils))
    | none=>none
   | none=>none
  | .pure (.slice k s es)=>if s=sz then match bound env es.length es.length hi with
   | some h=>match bound env h 0 lo with
    | some l=>some (.val (.pure (.slice k sz ((es.take h).drop l))))
    | none=>none
   | none=>none else none
  | _=>none
 | .allocR zero=>some (.new (.raw zero) fun id=>.box id 0)
 | .storeI size a x=>match a.eval env with
  | .box id off=>match H.get id with
   | .raw z =>
    let vs:=(x.eval env).cells
    if vs.length=size/\size≠0/\vs.all AV.one=true/\off+size<=(z.map AV.pure).length then
     some (.upd (.tup []) (H.set id (.cells true ((z.map AV.pure).take off++vs++(z.map AV.pure).drop (off+size)))))
    else none
   | _=>none
  | _=>none
 | .voidSlice sz=>some (.new (.cells true []) fun id=>.void id sz)
 | .appendE sz bytes a b=>match zJ H sz (b.eval env) with
  | none=>none
  | some (new,m)=>if !new.all AV.one then none else match a.eval env with
   | .void id s=>if s=sz then (if m=0 then some (.val (.row id sz 0 0)) else
     if m*sz<=zn/\m*bytes<=zn then some (.new (.cells true new) fun id=>.row id sz 0 m) else none) else none
   | _=>none
 | .makeMap=>some (.new (.mapo []) fun id=>.mapv id)
 | .lookup str zero ok m k=>match m.eval env,k.eval env with
  | .mapv id,.pure key=>match H.get id with
   | .mapo es=>match zek str key es with
    | some (some v)=>some (.val (.pure (if ok then .tup [v,.bool true] else v)))
    | some none=>some (.val (.pure (if ok then .tup [zero,.bool false] else zero)))
    | none=>none
   | _=>none
  | _,_=>none
 | .mapPut str m k x=>match m.eval env,k.eval env,x.eval env with
  | .mapv id,.pure key,.pure v=>match H.get id with
   | .mapo es=>match zfB str key v es with
    | some es'=>some (.upd (.tup []) (H.set id (.mapo es')))
    | none=>none
   | _=>none
  | _,_,_=>none
 | .lenMap x=>match x.eval env with
  | .mapv id=>match H.get id with
   | .mapo es=>some (.val (.pure (.int .i64 es.length)))
   | _=>none
  | _=>none
 | .stuck=>none
 | .substr x lo hi=>match x.eval env with
  | .pure (.str s)=>match bound env s.size s.size hi with
   | some h=>match bound env h 0 lo with
    | some l=>some (.val (.pure (.str (s.extract l h))))
    | none=>none
   | none=>none
  | _=>none
 | .fieldAddr off x=>match x.eval env with
  | .pure (.ptr k cs o)=>some (.val (.pure (.ptr k cs (o+off))))
  | .box id o=>some (.val (.box id (o+off)))
  | _=>none
 | .fieldL off x=>match x.eval env with
  | .pure (.ptr k cs o)=>some (.val (.pure (.ptr k cs (o+off))))
  | .box id o=>some (.val (.box id (o+off)))
  | _=>none
 | .loadL agg size x=>match zH H size (x.eval env) with
  | some cs=>(zae agg cs).map .val
  | none=>none
 | .field off size agg x =>
  let cs:=(x.eval env).cells
  if zbE (x.eval env)=true/\off+size<=cs.length then (zae agg ((cs.drop off).take size)).map .val else none
 | .indexAddr sz arr x i=>match i.eval env with
  | .pure (.int _ n)=>if 0<=n then match arr with
   | some len=>if n < len then match x.eval env with
    | .pure (.ptr k cs o)=>some (.val (.pure (.ptr k cs (o+n.toNat*sz))))
    | .box id o=>some (.val (.box id (o+n.toNat*sz)))
    | _=>none else none
   | none=>match x.eval env with
    | .pure (.slice k s es)=>if s=sz then match es[n.toNat]? with
     | some e=>some (.val (.pure (.ptr k e 0)))
     | none=>none else none
    | .row id s off len=>if s=sz/\n < len then some (.val (.box id (off*sz+n.toNat*sz))) else none
    | _=>none
   else none
  | _=>none
 | .index sz len agg x i=>match i.eval env with
  | .pure (.int _ n) =>
   let cs:=(x.eval env).cells
   if zbE (x.eval env)=true/\0<=n/\n < len/\n.toNat*sz+sz<=cs.length then (zae agg ((cs.drop (n.toNat*sz)).take sz)).map .val else none
  | _=>none
 | .byteAt x i=>match x.eval env,i.eval env with
  | .pure (.str s),.pure (.int _ n)=>if 0<=n then match s[n.toNat]? with
   | some b=>some (.val (.pure (.int .u8 b.toNat)))
   | none=>none else none
  | _,_=>none
 | .extract i x=>match x.eval env with
  | .pure (.tup vs)=>match vs[i]? with
   | some v=>some (.val (.pure v))
   | none=>none
  | .tup vs=>match vs[i]? with
   | some v=>some (.val v)
   | none=>none
  | _=>none
 | .call f args=>zM cl H (f.eval env) (args.map (·.eval env))
 | .callE f args ls=>match zM cl H (f.eval env) (args.map (·.eval env)) with
  | some (.upd v H2)=>if ls.all (fun l=>keeps H H2 (l.eval env))=true then some (.upd v H2) else none
  | _=>none
 | .callD f args=>zb6 cl H (f.eval env) (args.map (·.eval env))
 | .lenArr n=>some (.val (.pure (.int .i64 n)))
 | .lenStr x=>match x.eval env with
  | .pure (.str s)=>some (.val (.pure (.int .i64 s.size)))
  | _=>none
 | .lenSl x=>match x.eval env with
  | .pure .nils=>some (.val (.pure (.int .i64 0)))
  | .pure (.slice _ _ es)=>some (.val (.pure (.int .i64 es.length)))
  | .row _ _ _ n=>some (.val (.pure (.int .i64 n)))
  | _=>none
 | .append sz bytes a b=>zi H sz bytes (a.eval env) (b.eval env)
 | .appB sz bytes a b ls=>if ls.all (fun l=>zed (a.eval env) (l.eval env))=true then zi H sz bytes (a.eval env) (b.eval env) else none
 | .minmax mx xs=>match (xs.map fun x=>x.eval env:List AV) with
  | .pure (.int k a)::rest=>(zbS mx k a rest).map fun n=>.val (.pure (.int k n))
  | _=>none
 | .clear zero x=>match x.eval env with
  | .pure .nils=>some (.val (.tup []))
  | .row id sz off len=>if zero.length=sz then match H.get id with
   | .cells true cs=>if off*sz+len*sz<=cs.length then
     some (.upd (.tup []) (H.set id (.cells true (cs.take (off*sz)++(List.replicate len (zero.map AV.pure)).flatten++cs.drop (off*sz+len*sz)))))
    else none
   | _=>none else none
  | _=>none
def wanted (env:Env):Option (Option Nat×Bool)->Option Bool
 | none=>some true
 | some (some d,want)=>match env d with
  | .pure (.bool b)=>some (b == want)
  | .tup []=>some false
  | _=>none
 | some (none,_)=>none
def apply (H:Heap):Eff->AV×Heap
 | .val v=>(v,H)
 | .new o v=>(v H.nx,H.alloc o)
 | .upd v H'=>(v,H')
def za0:Eff->Bool
 | .upd _ _=>true
 | _=>false
def zT (cl:Callee):Nat->List VOper->Env->Heap->Option (Env×Heap)
 | _,[],env,H=>some (env,H)
 | pre,o::os,env,H=>match wanted env o.guard with
  | none=>none
  | some false=>zT cl (pre - 1) os (zaq env o.dst (.tup [])) H
  | some true=>match step cl env H o.op with
   | none=>none
   | some e=>if pre≠0/\za0 e then none else
    zT cl (pre - 1) os (zaq env o.dst (apply H e).1) (apply H e).2
abbrev Out:=Option (VExit×Env×Heap)
def iter (f:Env->Heap->Out):Nat->Env->Heap->Out
 | 0,_,_=>none
 | m+1,env,H=>match f env H with
  | some (.normal,env',H')=>iter f m env' H'
  | r=>r
def zx:Nat:=18446744073709551616
def exec (cl:Callee):VCode->Env->Heap->Out
 | .skip,env,H=>some (.normal,env,H)
 | .region pre ops,env,H=>match zT cl (pre.getD 0) ops env H with
  | some (env',H')=>some (.normal,env',H')
  | none=>none
 | .seq a b,env,H=>match exec cl a env H with
  | some (.normal,env',H')=>exec cl b env' H'
  | r=>r
 | .cond c a b,env,H=>match c.eval env with
  | .pure (.bool t)=>if t then exec cl a env H else exec cl b env H
  | _=>none
 | .block id c,env,H=>match exec cl c env H with
  | some (.exit i,env',H')=>if i=id then some (.normal,env',H') else some (.exit i,env',H')
  | r=>r
 | .loop c,env,H=>iter (exec cl c) zx env H
 | .exit id,env,H=>some (.exit id,env,H)
 | .ret,env,H=>some (.ret,env,H)
 | .rangeFunc f params assign body,env,H =>
  let id:=H.nx
  let H1:=H.alloc (.loop { env,params,assign,body,state:=.ready,pending:=.normal })
  let go (g:Nat) (xs:List AV):Out :=
   match cl.run g xs H1 with
   | some (_,H2)=>match H2.get id with
    | .loop r=>match r.state with
     | .busy=>none
     | _=>some (r.pending,env,H2.set id .dead)
    | _=>none
   | none=>none
  match f.eval env with
  | .pure (.func g caps)=>go g (.yield id::caps.map .pure)
  | .func g caps=>go g (.yield id::caps)
  | _=>none
def zcv (env:Env) (H:Heap):VRes->Option AV
 | .tmp t=>some (env t)
 | .cell t size agg=>match zH H size (env t) with
  | some cs=>zae agg cs
  | none=>none
def zbf (env:Env) (H:Heap):List VRes->Option (List AV)
 | []=>some []
 | r::rs=>match zcv env H r with
  | none=>none
  | some v=>match zbf env H rs with
   | none=>none
   | some vs=>some (v::vs)
def results (env:Env) (H:Heap) (rs:List VRes):Option AV :=
 match zbf env H rs with
 | some [v]=>some v
 | some vs=>some (.tup vs)
 | none=>none
def zb (args:List AV):Env:=fun i=>(args[i]?).getD (.tup [])
structure Prog where
 func:Nat->Option VFunc
 shared:Nat->Bool
 ext:Nat->Option (List PV->Option PV)
 extRun:Nat->List AV->Heap->Option (AV×Heap)
inductive Target where
 | fn (f:Nat)
 | yield (id:Nat)
def call (G:Prog):Nat->Target->List AV->Heap->Option (AV×Heap)
 | 0,_,_,_=>none
 | n+1,tg,args,H =>
  let cl:Callee:={
   pure:=fun f ps=>match G.ext f with
    | some g=>g ps
    | none=>match call G n (.fn f) (ps.map .pure) Heap.empty with
     | some (v,H')=>(freeze H' false zab v).map (·.1)
     | none=>none
   shared:=G.shared
   run:=fun f xs H=>call G n (.fn f) xs H
   yield:=fun id xs H=>call G n (.yield id) xs H }
  match tg with
  | .fn f=>match G.extRun f args H with
   | some r=>some r
   | none=>match G.func f with
    | none=>none
    | some fn =>
     if args.length=fn.nargs then
      match exec cl fn.body (zb args) H with
      | some (.normal,env,H')|some (.ret,env,H')=>match results env H' fn.results with
       | some v=>some (v,H')
       | none=>none
      | _=>none
     else none
  | .yield id=>match H.get id with
   | .loop r =>
    if args.length=r.params.length then
     match exec cl r.assign ((r.params.zip args).foldl (fun e x=>upd e x.1 x.2) r.env) H with
     | some (.normal,env2,H2)=>match H2.get id with
      | .loop r2=>match r2.state with
       | .ready=>match exec cl r.body env2 (H2.set id (.loop { r2 with state:=.busy })) with
        | some (x,_,H3)=>match H3.get id with
         | .loop r3=>match x with
          | .normal=>some (.pure (.bool true),H3.set id (.loop { r3 with state:=.ready,pending:=.normal }))
          | x=>some (.pure (.bool false),H3.set id (.loop { r3 with state:=.done,pending:=x }))
         | _=>none
        | none=>none
       | _=>none
      | _=>none
     | _=>none
    else none
   | _=>none
def zI (G:Prog) (n:Nat) (f:Nat) (ps:List PV):Option PV :=
 match G.ext f with
 | some g=>g ps
 | none=>match call G n (.fn f) (ps.map .pure) Heap.empty with
  | some (v,H')=>(freeze H' false zab v).map (·.1)
  | none=>none
end Go.Proofs.Ytleggocccaeemaa.Vm
