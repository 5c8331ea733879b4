/- A small machine of values: Go code of this program, run on data instead of memory. It only defines; nothing is proved here. -/
import Derived.OrdersIn
import Derived.RangeFuncLeaves
set_option linter.unusedVariables false
set_option linter.unusedSimpArgs false
namespace Go.Proofs.YtmmhnfghklppiaaGreat.Vm
open Go
inductive PV where
 | int (k:IntKind) (n:Int)
 | bool (b:Bool)
 | str (s:ByteArray)
 | agg (cs:List PV)
 | aQ (vs:List PV)
 | nils
 | slice (uq:Bool) (sz:Nat) (es:List (List PV))
 | mD
 | ptr (uq:Bool) (cs:List PV) (off:Nat)
 | func (f:Nat) (caps:List PV)
 | mE
 | lQ (f:Nat) (first:List PV)
 deriving Inhabited
inductive AV where
 | undef
 | pure (p:PV)
 | box (id off:Nat)
 | row (id sz off len:Nat)
 | agg (cs:List AV)
 | aQ (vs:List AV)
 | func (f:Nat) (caps:List AV)
 | yield (id:Nat)
 | void (id sz:Nat)
 | lq (id:Nat)
 | lS (id sz off len:Nat)
 deriving Inhabited
inductive aa where
 | tmp (t:Nat)
 | const (p:PV)
 deriving Inhabited
inductive wO where
 | num
 | bool
 | slice
 | pointer
 | func
inductive mI where
 | iL (x:aa)
 | pick (c a b:aa)
 | alloc (zero:List PV)
 | box (x:aa)
 | build (zero:List PV) (parts:List (Nat×Nat×aa))
 | buildSlice (sz:Nat) (zero:List PV) (parts:List (Nat×Nat×aa))
 | load (agg:Bool) (size:Nat) (x:aa)
 | store (size:Nat) (a x:aa)
 | nilCheck (x:aa)
 | bin (op:BinOp) (d:wO) (x y:aa)
 | og (neg:Bool) (size:Nat) (Ru:List Nat) (x y:aa)
 | un (op:UnOp) (x:aa)
 | toInt (k:IntKind) (x:aa)
 | tJ (x:aa)
 | tK (x:aa)
 | toStr (x:aa)
 | makeFunc (f:Nat) (caps:List aa)
 | iE (f:Nat) (first:List aa)
 | makeSlice (sz bytes:Nat) (zero:List PV) (l c:aa)
 | slice (sz:Nat) (x:aa) (lo hi:Option aa)
 | substr (x:aa) (lo hi:Option aa)
 | fieldAddr (off:Nat) (x:aa)
 | field (off size:Nat) (agg:Bool) (x:aa)
 | indexAddr (sz:Nat) (arr:Option Nat) (x i:aa)
 | index (sz len:Nat) (agg:Bool) (x i:aa)
 | byteAt (x i:aa)
 | extract (i:Nat) (x:aa)
 | call (f:aa) (args:List aa)
 | xq (n:Nat)
 | xu (x:aa)
 | wP (x:aa)
 | append (sz bytes:Nat) (a b:aa)
 | bN (mx:Bool) (xs:List aa)
 | clear (zero:List PV) (x:aa)
 | slice3 (sz:Nat) (x:aa) (lo:Option aa) (hi mx:aa)
 | DT (x:aa)
 | EO (x:aa)
 | idle (i:Nat) (x:aa)
 | tL (sz bytes:Nat) (zero:List PV) (a n:aa)
 | yu (x:aa)
 | uu (sz:Nat) (x:aa) (lo hi:Option aa)
 | j5 (sz:Nat)
 | jZ (sz bytes:Nat) (a b:aa)
 | oh (zero:List PV)
 | bC (size:Nat) (a x:aa)
 | makeMap
 | lookup (str:Bool) (zero:PV) (ok:Bool) (m k:aa)
 | rJ (str:Bool) (m k x:aa)
 | uw (x:aa)
 | lu (off:Nat) (x:aa)
 | iR (agg:Bool) (size:Nat) (x:aa)
 | fK (size:Nat) (a x:aa) (ls:List aa)
 | uy (agg:Bool) (size:Nat) (x:aa)
 | om (sz:Nat) (zero:List PV) (parts:List (Nat×Nat×aa))
 | jG (f:aa) (args ls:List aa)
 | pX (zero:List PV) (parts:List (Nat×Nat×aa))
 | stuck
structure af where
 dst:Option Nat
 op:mI
 guard:Option (Option Nat×Bool)
inductive aV where
 | skip
 | region (pre:Option Nat) (ops:List af)
 | seq (a b:aV)
 | cond (c:aa) (a b:aV)
 | block (id:Nat) (c:aV)
 | loop (c:aV)
 | rangeFunc (f:aa) (params:List Nat) (assign body:aV)
 | exit (id:Nat)
 | ret
def aV.fI:aV->Bool
 | .rangeFunc _ _ _ _=>false
 | .seq a b|.cond _ a b=>a.fI&&b.fI
 | .block _ c|.loop c=>c.fI
 | _=>true
inductive fZ where
 | normal
 | exit (id:Nat)
 | ret
inductive mK where
 | tmp (t:Nat)
 | cell (t:Nat) (size:Nat) (agg:Bool)
structure ai where
 wQ:Nat
 ntmps:Nat
 results:List mK
 body:aV
abbrev Env:=Nat->AV
inductive BQ where
 | ready
 | busy
 | done
structure DU where
 env:Env
 params:List Nat
 assign:aV
 body:aV
 state:BQ
 pending:fZ
inductive aU where
 | dead
 | cells (own:Bool) (cs:List AV)
 | loop (r:DU)
 | raw (zero:List PV)
 | jh (es:List (PV×PV))
structure Heap where
 nx:Nat
 arr:Nat->aU
def Heap.get (H:Heap) (id:Nat):aU:=if id < H.nx then H.arr id else .dead
def Heap.empty:Heap:=⟨0,fun _=>.dead⟩
def upd {α:Type} (f:Nat->α) (i:Nat) (v:α):Nat->α:=fun j=>if j=i then v else f j
def Heap.alloc (H:Heap) (o:aU):Heap:=⟨H.nx+1,upd H.arr H.nx o⟩
def Heap.set (H:Heap) (id:Nat) (o:aU):Heap:=⟨H.nx,upd H.arr id o⟩
def aU.freeze:aU->aU
 | .cells _ cs=>.cells false cs
 | o=>o
def Heap.freeze (H:Heap) (ids:List Nat):Heap:=⟨H.nx,fun i=>if ids.contains i then (H.arr i).freeze else H.arr i⟩
def oV {α:Type} (f:Nat->α) (d:Option Nat) (v:α):Nat->α :=
 match d with
 | some i=>upd f i v
 | none=>f
def aa.eval (env:Env):aa->AV
 | .tmp t=>env t
 | .const p=>.pure p
def AV.cells:AV->List AV
 | .undef=>[]
 | .pure (.agg ps)=>ps.map .pure
 | .agg cs=>cs
 | v=>[v]
def AV.one:AV->Bool
 | .undef|.agg _|.aQ _|.pure (.agg _)|.pure (.aQ _)=>false
 | _=>true
def DV:AV->Bool
 | .agg _|.pure (.agg _)=>true
 | _=>false
def PV.one:PV->Bool
 | .agg _|.aQ _=>false
 | _=>true
def qp:List AV->Option (List PV)
 | []=>some []
 | .pure p::vs=>(qp vs).map (p :: ·)
 | _=>none
def iA (cs:List AV):AV:=match qp cs with
 | some ps=>.pure (.agg ps)
 | none=>.agg cs
def JK (f:Nat) (cs:List AV):AV:=match qp cs with
 | some ps=>.pure (.func f ps)
 | none=>.func f cs
def rM (agg:Bool):List AV->Option AV
 | cs=>if agg then some (iA cs) else match cs with
  | [c]=>some c
  | _=>none
def PV.iT:Nat->PV->Bool
 | 0,_=>false
 | n+1,p=>match p with
  | .agg cs|.aQ cs|.func _ cs|.lQ _ cs=>cs.all (PV.iT n)
  | .slice h _ es=>es.isEmpty||(!h&&es.all fun e=>e.all (PV.iT n))
  | .ptr h cs _=>!h&&cs.all (PV.iT n)
  | _=>true
def PV.cold (p:PV):Bool:=p.iT 12
def chunks {α:Type} (sz:Nat):Nat->List α->List (List α)
 | 0,_=>[]
 | n+1,l=>l.take sz::chunks sz n (l.drop sz)
def zS (fr:AV->Option (PV×List Nat)):List AV->Option (List PV×List Nat)
 | []=>some ([],[])
 | v::vs=>match fr v with
  | none=>none
  | some (p,is)=>match zS fr vs with
   | none=>none
   | some (ps,js)=>some (p::ps,is++js)
def freeze (H:Heap) (k:Bool):Nat->AV->Option (PV×List Nat)
 | 0,_=>none
 | n+1,v=>match v with
  | .pure p=>some (p,[])
  | .agg cs=>match zS (freeze H k n) cs with
   | some (ps,is)=>some (.agg ps,is)
   | none=>none
  | .aQ cs=>match zS (freeze H k n) cs with
   | some (ps,is)=>some (.aQ ps,is)
   | none=>none
  | .func f cs=>match zS (freeze H k n) cs with
   | some (ps,is)=>some (.func f ps,is)
   | none=>none
  | .box id off=>match H.get id with
   | .cells _ cs=>match zS (freeze H k n) cs with
    | some (ps,is)=>some (.ptr k ps off,id::is)
    | none=>none
   | _=>none
  | .row id sz off len=>match H.get id with
   | .cells _ cs=>match zS (freeze H k n) ((cs.drop (off*sz)).take (len*sz)) with
    | some (ps,is)=>if ps.length=len*sz then some (.slice k sz (chunks sz len ps),id::is) else none
    | none=>none
   | _=>none
  | .lS id sz off len=>match H.get id with
   | .cells _ cs=>match zS (freeze H k n) ((cs.drop (off*sz)).take (len*sz)) with
    | some (ps,is)=>if ps.length=len*sz then some (.slice k sz (chunks sz len ps),id::is) else none
    | none=>none
   | _=>none
  | _=>none
def qw:Nat:=12
def Ja:AV->Option UInt8
 | .pure (.int .u8 n)=>some (UInt8.ofNat n.toNat)
 | _=>none
inductive Eff where
 | val (v:AV)
 | new (o:aU) (v:Nat->AV)
 | upd (v:AV) (H:Heap)
structure Callee where
 pure:Nat->List PV->Option PV
 shared:Nat->Bool
 run:Nat->List AV->Heap->Option (AV×Heap)
 yield:Nat->List AV->Heap->Option (AV×Heap)
def VF (str:Bool):PV->PV->Option Bool
 | .int k a,.int k' b=>if str=false/\k=k' then some (a == b) else none
 | .str a,.str b=>if str=true then some (a.data.toList == b.data.toList) else none
 | _,_=>none
def P8 (str:Bool) (key:PV):List (PV×PV)->Option (Option PV)
 | []=>some none
 | (k,v)::es=>match VF str key k with
  | some true=>some (some v)
  | some false=>P8 str key es
  | none=>none
def P9 (str:Bool) (key v:PV):List (PV×PV)->Option (List (PV×PV))
 | []=>some [(key,v)]
 | (k,u)::es=>match VF str key k with
  | some true=>some ((key,v)::es)
  | some false=>match P9 str key v es with
   | some es'=>some ((k,u)::es')
   | none=>none
  | none=>none
def fill:List AV->List (Nat×Nat×AV)->Option (List AV)
 | cs,[]=>some cs
 | cs,(off,size,v)::rest =>
  let vs:=v.cells
  if vs.length=size/\size≠0/\off+size<=cs.length then fill (cs.take off++vs++cs.drop (off+size)) rest else none
def vw (env:Env) (ps:List (Nat×Nat×aa)):List (Nat×Nat×AV):=ps.map fun (o,s,x)=>(o,s,x.eval env)
def Ls (op:BinOp) (x y:Int):Option Bool :=
 match op with
 | .eql=>some (x == y)
 | .neq=>some (x != y)
 | .lss=>some (decide (x < y))
 | .leq=>some (decide (x<=y))
 | .gtr=>some (decide (x > y))
 | .geq=>some (decide (x ≥ y))
 | _=>none
def BR (op:BinOp) (k:IntKind) (x y:Int):Option PV :=
 match op with
 | .add=>some (.int k (k.wrap (x+y)))
 | .sub=>some (.int k (k.wrap (x - y)))
 | .mul=>some (.int k (k.wrap (x*y)))
 | .quo=>if y=0 then none else some (.int k (k.wrap (x.tdiv y)))
 | .rem=>if y=0 then none else some (.int k (x.tmod y))
 | .and=>some (.int k (k.wrap (BitVec.ofInt k.bits x &&& BitVec.ofInt k.bits y).toNat))
 | .or=>some (.int k (k.wrap (BitVec.ofInt k.bits x ||| BitVec.ofInt k.bits y).toNat))
 | .xor=>some (.int k (k.wrap (BitVec.ofInt k.bits x ^^^ BitVec.ofInt k.bits y).toNat))
 | .andNot=>some (.int k (k.wrap (BitVec.ofInt k.bits x &&& ~~~BitVec.ofInt k.bits y).toNat))
 | _=>(Ls op x y).map .bool
def VG (op:BinOp) (k:IntKind) (x y:Int):Option PV :=
 if y < 0 then none else
 match op with
 | .shl=>some (.int k (k.wrap (x*2 ^ (min y.toNat k.bits))))
 | .shr=>some (.int k (x.fdiv (2 ^ (min y.toNat k.bits))))
 | _=>none
def VH (op:BinOp) (x y:ByteArray):Option PV :=
 match op with
 | .eql=>some (.bool (x.toList == y.toList))
 | .neq=>some (.bool (!(x.toList == y.toList)))
 | .lss=>some (.bool (Op.bytesLess x.toList y.toList))
 | .add=>if x.size+y.size<=4294967296 then some (.str (x++y)) else none
 | _=>none
def isNil (d:wO):AV->Option Bool
 | .pure .nils=>if d matches .slice then some true else none
 | .pure .mD=>if d matches .pointer then some true else none
 | .pure .mE=>if d matches .func then some true else none
 | .pure (.slice _ _ _)|.row _ _ _ _=>if d matches .slice then some false else none
 | .pure (.ptr _ _ _)|.box _ _=>if d matches .pointer then some false else none
 | .pure (.func _ _)|.func _ _=>if d matches .func then some false else none
 | _=>none
def Lt (d:wO) (x y:AV):Option Bool :=
 match isNil d x,isNil d y with
 | some true,some b=>some b
 | some false,some true=>some false
 | some false,some false=>none
 | _,_=>match d,x,y with
  | .bool,.pure (.bool a),.pure (.bool b)=>some (a == b)
  | _,_,_=>none
def iM (op:BinOp) (d:wO) (x y:AV):Option AV :=
 match x,y with
 | .pure (.int k a),.pure (.int k' b) =>
  if op=.shl\/op=.shr then (VG op k a b).map .pure else
  if k=k' then (BR op k a b).map .pure else none
 | .pure (.str a),.pure (.str b)=>(VH op a b).map .pure
 | x,y=>match op with
  | .eql=>(Lt d x y).map fun b=>.pure (.bool b)
  | .neq=>(Lt d x y).map fun b=>.pure (.bool (!b))
  | _=>none
def NM (op:UnOp) (x:AV):Option AV :=
 match op,x with
 | .not,.pure (.bool b)=>some (.pure (.bool (!b)))
 | .neg,.pure (.int k n)=>some (.pure (.int k (k.wrap (0 - n))))
 | _,_=>none
def xZ:List AV->List AV->List Nat->Option Bool
 | _,_,[]=>some true
 | xs,ys,o::os=>if o < 500000 then (match xs[o]?,ys[o]? with
  | some (.pure (.int k a)),some (.pure (.int k' b))=>if k=k' then (if a == b then xZ xs ys os else some false) else none
  | _,_=>none)
  else (match xs[o - 500000]?,ys[o - 500000]? with
  | some (.pure (.bool a)),some (.pure (.bool b))=>if a == b then xZ xs ys os else some false
  | _,_=>none)
def Bq (i:Int) (n:Nat):Option Nat:=if 0<=i/\i<=n then some i.toNat else none
def bound (env:Env) (n dflt:Nat):Option aa->Option Nat
 | none=>some dflt
 | some x=>match x.eval env with
  | .pure (.int _ i)=>Bq i n
  | _=>none
def Gx (mx:Bool) (k:IntKind):Int->List AV->Option Int
 | a,[]=>some a
 | a,.pure (.int _ b)::rest=>Gx mx k (if mx then (if b > a then b else a) else (if b < a then b else a)) rest
 | _,_=>none
def zO (H:Heap) (sz:Nat):AV->Option (List AV×Nat)
 | .pure .nils=>some ([],0)
 | .pure (.slice _ _ es)=>if es.all (fun e=>e.length == sz) then some (es.flatten.map .pure,es.length) else none
 | .row id s off len=>if s=sz then match H.get id with
   | .cells _ cs=>if off*sz+len*sz<=cs.length then some ((cs.drop (off*sz)).take (len*sz),len) else none
   | _=>none else none
 | _=>none
def zo:Nat:=8796093022208
def Lu (H:Heap) (id sz off len:Nat):Option Nat :=
 match H.get id with
 | .cells _ cs=>some (max len (cs.length / sz - off))
 | _=>none
def Qa:AV->Option Nat
 | .pure .nils=>some 0
 | .pure (.slice _ _ es)=>some es.length
 | .row _ _ _ len=>some len
 | _=>none
def zm (H:Heap) (sz bytes:Nat) (a b:AV):Option Eff :=
 match zO H sz b with
 | none=>none
 | some (new,m) =>
  if !new.all AV.one then none else
  match a with
  | .pure .nils =>
   if m=0 then some (.val (.pure .nils)) else
   if m*sz<=zo/\m*bytes<=zo then some (.new (.cells true new) fun id=>.row id sz 0 m) else none
  | .row id s off n =>
   if s=sz then match H.get id with
    | .cells true cs =>
     if off*sz+(n+m)*sz<=cs.length then
      some (.upd (.row id sz off (n+m)) (H.set id (.cells true (cs.take (off*sz+n*sz)++new++cs.drop (off*sz+(n+m)*sz)))))
     else if off=0/\n*sz=cs.length/\(n+m)*sz<=zo/\(n+m)*bytes<=zo then
      some (.upd (.row H.nx sz 0 (n+m)) ((H.set id .dead).alloc (.cells true (cs++new))))
     else none
    | _=>none
   else none
  | .lS id s off n =>
   if s=sz then
    if m=0 then some (.val (.lS id s off n)) else
    match H.get id with
    | .cells _ cs =>
     if off*sz+n*sz<=cs.length/\(n+m)*sz<=zo/\(n+m)*bytes<=zo then
      some (.new (.cells true ((cs.drop (off*sz)).take (n*sz)++new)) fun id'=>.row id' sz 0 (n+m))
     else none
    | _=>none
   else none
  | _=>none
def Gy (sz:Nat) (lo:Option aa) (h m:Nat):AV->AV
 | .row id s off _=>if s=sz/\h=m/\lo.isNone=true then .lS id s off h else .undef
 | _=>.undef
def zH (cl:Callee) (H:Heap) (f:AV) (args:List AV):Option Eff :=
 let go (g:Nat) (xs:List AV):Option Eff :=
  if cl.shared g then
   match cl.run g xs H with
   | some (v,H')=>some (.upd v H')
   | none=>none
  else
   match zS (freeze H true qw) xs with
   | none=>none
   | some (ps,ids) =>
    match cl.pure g ps with
    | none=>none
    | some r=>if ids.isEmpty||r.cold then some (.val (.pure r)) else some (.upd (.pure r) (H.freeze ids))
 match f with
 | .pure (.func g caps)=>go g (args++caps.map .pure)
 | .func g caps=>go g (args++caps)
 | .pure (.lQ g first)=>go g (first.map .pure++(args++[]))
 | .yield id=>match cl.yield id args H with
  | some (v,H')=>some (.upd v H')
  | none=>none
 | _=>none
def zY (H:Heap) (size:Nat):AV->Option (List AV)
 | .pure (.ptr _ cs off)=>if off+size<=cs.length then some (((cs.drop off).take size).map .pure) else none
 | .box id off=>match H.get id with
  | .cells _ cs=>if off+size<=cs.length then some ((cs.drop off).take size) else none
  | _=>none
 | _=>none
def beside (id:Nat):AV->Bool
 | .box i _=>i != id
 | _=>true
def PV.jq:PV->PV->Bool
 | .int k a,.int k' b=>decide (k=k')&&a == b
 | .bool a,.bool b=>a == b
 | _,_=>false
def all2 {α:Type} (f:α->α->Bool):List α->List α->Bool
 | [],[]=>true
 | a::l,b::m=>f a b&&all2 f l m
 | _,_=>false
def PV.jr:Nat->PV->PV->Bool
 | 0,_,_=>false
 | n+1,p,q=>match p with
  | .slice h s es=>(match q with
   | .slice h' s' es'=>h == h'&&s == s'&&all2 (all2 (PV.jr n)) es es'
   | _=>false)
  | .ptr h cs o=>(match q with
   | .ptr h' cs' o'=>h == h'&&o == o'&&all2 (PV.jr n) cs cs'
   | _=>false)
  | .nils=>(match q with
   | .nils=>true
   | _=>false)
  | p=>p.jq q
def AV.l5:AV->AV->Bool
 | .pure p,.pure q=>PV.jr 6 p q
 | .box i o,.box j q=>i == j&&o == q
 | _,_=>false
def EP:List AV->List AV->Bool
 | [],[]=>true
 | .pure p::l,.pure q::m=>p.jq q&&EP l m
 | .func f cs::l,.func g ds::m=>f == g&&all2 AV.l5 cs ds&&EP l m
 | _,_=>false
def keeps (H H2:Heap):AV->Bool
 | .box id _=>match H.get id,H2.get id with
  | .cells o cs,.cells o2 cs2=>o == o2&&EP cs cs2
  | _,_=>false
 | _=>false
def Rw (sz n:Nat):Nat:=if sz=0 then 0 else n / sz
def step (cl:Callee) (env:Env) (H:Heap):mI->Option Eff
 | .iL x=>some (.val (x.eval env))
 | .pick c a b=>match c.eval env with
  | .pure (.bool t)=>some (.val (if t then a.eval env else b.eval env))
  | _=>none
 | .alloc zero=>some (.new (.cells true (zero.map .pure)) fun id=>.box id 0)
 | .box x=>some (.new (.cells true (x.eval env).cells) fun id=>.box id 0)
 | .build zero parts=>match fill (zero.map .pure) (vw env parts) with
  | some cs=>some (.val (iA cs))
  | none=>none
 | .buildSlice sz zero parts=>match fill (zero.map .pure) (vw env parts) with
  | some cs=>some (.new (.cells true cs) fun id=>.row id sz 0 (if sz=0 then 0 else cs.length / sz))
  | none=>none
 | .pX zero parts=>match fill (zero.map .pure) (vw env parts) with
  | some cs=>some (.val (iA cs))
  | none=>none
 | .om sz zero parts=>match fill (zero.map .pure) (vw env parts) with
  | some cs=>match qp cs with
   | some ps=>if ps.length=Rw sz cs.length*sz then some (.val (.pure (.slice false sz (chunks sz (Rw sz cs.length) ps)))) else none
   | none=>none
  | none=>none
 | .load agg size x=>match zY H size (x.eval env) with
  | some cs=>(rM agg cs).map .val
  | none=>none
 | .store size a x=>match a.eval env with
  | .box id off=>match H.get id with
   | .cells true cs =>
    let vs:=(x.eval env).cells
    if vs.length=size/\size≠0/\vs.all AV.one=true/\off+size<=cs.length then
     some (.upd (.aQ []) (H.set id (.cells true (cs.take off++vs++cs.drop (off+size)))))
    else none
   | _=>none
  | _=>none
 | .uy agg size x=>match x.eval env with
  | .pure (.ptr _ cs off)=>if off+size<=cs.length then (rM agg (((cs.drop off).take size).map .pure)).map .val else none
  | _=>none
 | .fK size a x ls=>match a.eval env with
  | .box id off=>if ls.all (fun l=>beside id (l.eval env))=true then match H.get id with
   | .cells true cs =>
    let vs:=(x.eval env).cells
    if vs.length=size/\size≠0/\vs.all AV.one=true/\off+size<=cs.length then
     some (.upd (.aQ []) (H.set id (.cells true (cs.take off++vs++cs.drop (off+size)))))
    else none
   | _=>none else none
  | _=>none
 | .nilCheck x=>match isNil .pointer (x.eval env),isNil .func (x.eval env) with
  | some false,_|_,some false=>some (.val (x.eval env))
  | _,_=>none
 | .bin op d x y=>(iM op d (x.eval env) (y.eval env)).map .val
 | .og neg size Ru x y =>
  if DV (x.eval env)=true/\DV (y.eval env)=true/\(x.eval env).cells.length=size/\(y.eval env).cells.length=size then
   match xZ (x.eval env).cells (y.eval env).cells Ru with
   | some b=>some (.val (.pure (.bool (b != neg))))
   | none=>none
  else none
 | .un op x=>(NM op (x.eval env)).map .val
 | .toInt k x=>match x.eval env with
  | .pure (.int _ n)=>some (.val (.pure (.int k (k.wrap n))))
  | _=>none
 | .tJ x=>match x.eval env with
  | .pure (.str s)=>some (.val (.pure (.str s)))
  | _=>none
 | .tK x=>match x.eval env with
  | .pure (.str s)=>some (.new (.cells true (s.data.toList.map fun b=>.pure (.int .u8 b.toNat))) fun id=>.row id 1 0 s.size)
  | _=>none
 | .toStr x=>match zO H 1 (x.eval env) with
  | some (cs,_)=>match cs.mapM Ja with
   | some bs=>some (.val (.pure (.str ⟨bs.toArray⟩)))
   | none=>none
  | none=>none
 | .makeFunc f caps=>some (.val (JK f (caps.map (·.eval env))))
 | .iE f first=>match qp (first.map (·.eval env)) with
  | some ps=>some (.val (.pure (.lQ f ps)))
  | none=>none
 | .makeSlice sz bytes zero l c=>match l.eval env,c.eval env with
  | .pure (.int _ a),.pure (.int _ b) =>
   if 0<=a/\a=b/\a.toNat*sz<=zo/\a.toNat*bytes<=zo/\a.toNat<=zo then
    some (.new (.cells true ((List.replicate a.toNat (zero.map AV.pure)).flatten)) fun id=>.row id sz 0 a.toNat)
   else none
  | _,_=>none
 | .slice sz x lo hi=>match x.eval env with
  | .pure .nils=>match bound env 0 0 hi with
   | some _=>match bound env 0 0 lo with
    | some _=>some (.val (.pure .nils))
    | none=>none
   | none=>none
  | .pure (.slice k s es)=>if s=sz then match bound env es.length es.length hi with
   | some h=>match bound env h 0 lo with
    | some l=>some (.val (.pure (.slice k sz ((es.take h).drop l))))
    | none=>none
   | none=>none else none
  | .row id s off len=>if s=sz then match Lu H id sz off len with
   | some N=>match bound env N len hi with
    | some h=>match bound env h 0 lo with
     | some l=>some (.val (if l≠0/\h=l then .pure (.slice false sz []) else .row id sz (off+l) (h - l)))
     | none=>none
    | none=>none
   | none=>none else none
  | _=>none
 | .slice3 sz x lo hi mx=>match Qa (x.eval env) with
  | some len=>match bound env len len (some mx) with
   | some m=>match bound env m m (some hi) with
    | some h=>match bound env h 0 lo with
     | some _=>some (.val (Gy sz lo h m (x.eval env)))
     | none=>none
    | none=>none
   | none=>none
  | none=>none
 | .DT x=>match x.eval env with
  | .pure .nils=>some (.val (.pure (.int .i64 0)))
  | _=>none
 | .EO x=>match qp (x.eval env).cells with
  | some ps=>some (.val (.pure (.ptr false ps 0)))
  | none=>none
 | .idle i x=>match x.eval env with
  | .pure (.aQ vs)=>match vs[i]? with
   | some _=>some (.val .undef)
   | none=>none
  | .aQ vs=>match vs[i]? with
   | some _=>some (.val .undef)
   | none=>none
  | _=>none
 | .tL sz bytes zero a n=>match a.eval env,n.eval env with
  | .pure .nils,.pure (.int _ k) =>
   if 0<=k/\k.toNat*sz<=zo/\k.toNat*bytes<=zo/\k.toNat<=zo then
    if k=0 then some (.val (.pure .nils)) else some (.new (.cells true ((List.replicate k.toNat (zero.map AV.pure)).flatten)) fun id=>.row id sz 0 k.toNat)
   else none
  | _,_=>none
 | .yu x=>some (.val (x.eval env))
 | .uu sz x lo hi=>match x.eval env with
  | .pure .nils=>match bound env 0 0 hi with
   | some _=>match bound env 0 0 lo with
    | some _=>some (.val (.pure .nils))
    | none=>none
   | none=>none
  | .pure (.slice k s es)=>if s=sz then match bound env es.length es.length hi with
   | some h=>match bound env h 0 lo with
    | some l=>some (.val (.pure (.slice k sz ((es.take h).drop l))))
    | none=>none
   | none=>none else none
  | _=>none
 | .oh zero=>some (.new (.raw zero) fun id=>.box id 0)
 | .bC size a x=>match a.eval env with
  | .box id off=>match H.get id with
   | .raw z =>
    let vs:=(x.eval env).cells
    if vs.length=size/\size≠0/\vs.all AV.one=true/\off+size<=(z.map AV.pure).length then
     some (.upd (.aQ []) (H.set id (.cells true ((z.map AV.pure).take off++vs++(z.map AV.pure).drop (off+size)))))
    else none
   | _=>none
  | _=>none
 | .j5 sz=>some (.new (.cells true []) fun id=>.void id sz)
 | .jZ sz bytes a b=>match zO H sz (b.eval env) with
  | none=>none
  | some (new,m)=>if !new.all AV.one then none else match a.eval env with
   | .void id s=>if s=sz then (if m=0 then some (.val (.row id sz 0 0)) else
     if m*sz<=zo/\m*bytes<=zo then some (.new (.cells true new) fun id=>.row id sz 0 m) else none) else none
   | _=>none
 | .makeMap=>some (.new (.jh []) fun id=>.lq id)
 | .lookup str zero ok m k=>match m.eval env,k.eval env with
  | .lq id,.pure key=>match H.get id with
   | .jh es=>match P8 str key es with
    | some (some v)=>some (.val (.pure (if ok then .aQ [v,.bool true] else v)))
    | some none=>some (.val (.pure (if ok then .aQ [zero,.bool false] else zero)))
    | none=>none
   | _=>none
  | _,_=>none
 | .rJ str m k x=>match m.eval env,k.eval env,x.eval env with
  | .lq id,.pure key,.pure v=>match H.get id with
   | .jh es=>match P9 str key v es with
    | some es'=>some (.upd (.aQ []) (H.set id (.jh es')))
    | none=>none
   | _=>none
  | _,_,_=>none
 | .uw x=>match x.eval env with
  | .lq id=>match H.get id with
   | .jh es=>some (.val (.pure (.int .i64 es.length)))
   | _=>none
  | _=>none
 | .stuck=>none
 | .substr x lo hi=>match x.eval env with
  | .pure (.str s)=>match bound env s.size s.size hi with
   | some h=>match bound env h 0 lo with
    | some l=>some (.val (.pure (.str (s.extract l h))))
    | none=>none
   | none=>none
  | _=>none
 | .fieldAddr off x=>match x.eval env with
  | .pure (.ptr k cs o)=>some (.val (.pure (.ptr k cs (o+off))))
  | .box id o=>some (.val (.box id (o+off)))
  | _=>none
 | .lu off x=>match x.eval env with
  | .pure (.ptr k cs o)=>some (.val (.pure (.ptr k cs (o+off))))
  | .box id o=>some (.val (.box id (o+off)))
  | _=>none
 | .iR agg size x=>match zY H size (x.eval env) with
  | some cs=>(rM agg cs).map .val
  | none=>none
 | .field off size agg x =>
  let cs:=(x.eval env).cells
  if DV (x.eval env)=true/\off+size<=cs.length then (rM agg ((cs.drop off).take size)).map .val else none
 | .indexAddr sz arr x i=>match i.eval env with
  | .pure (.int _ n)=>if 0<=n then match arr with
   | some len=>if n < len then match x.eval env with
    | .pure (.ptr k cs o)=>some (.val (.pure (.ptr k cs (o+n.toNat*sz))))
    | .box id o=>some (.val (.box id (o+n.toNat*sz)))
    | _=>none else none
   | none=>match x.eval env with
    | .pure (.slice k s es)=>if s=sz then match es[n.toNat]? with
     | some e=>some (.val (.pure (.ptr k e 0)))
     | none=>none else none
    | .row id s off len=>if s=sz/\n < len then some (.val (.box id (off*sz+n.toNat*sz))) else none
    | _=>none
   else none
  | _=>none
 | .index sz len agg x i=>match i.eval env with
  | .pure (.int _ n) =>
   let cs:=(x.eval env).cells
   if DV (x.eval env)=true/\0<=n/\n < len/\n.toNat*sz+sz<=cs.length then (rM agg ((cs.drop (n.toNat*sz)).take sz)).map .val else none
  | _=>none
 | .byteAt x i=>match x.eval env,i.eval env with
  | .pure (.str s),.pure (.int _ n)=>if 0<=n then match s[n.toNat]? with
   | some b=>some (.val (.pure (.int .u8 b.toNat)))
   | none=>none else none
  | _,_=>none
 | .extract i x=>match x.eval env with
  | .pure (.aQ vs)=>match vs[i]? with
   | some v=>some (.val (.pure v))
   | none=>none
  | .aQ vs=>match vs[i]? with
   | some v=>some (.val v)
   | none=>none
  | _=>none
 | .call f args=>zH cl H (f.eval env) (args.map (·.eval env))
 | .jG f args ls=>match zH cl H (f.eval env) (args.map (·.eval env)) with
  | some (.upd v H2)=>if ls.all (fun l=>keeps H H2 (l.eval env))=true then some (.upd v H2) else none
  | _=>none
 | .xq n=>some (.val (.pure (.int .i64 n)))
 | .xu x=>match x.eval env with
  | .pure (.str s)=>some (.val (.pure (.int .i64 s.size)))
  | _=>none
 | .wP x=>match x.eval env with
  | .pure .nils=>some (.val (.pure (.int .i64 0)))
  | .pure (.slice _ _ es)=>some (.val (.pure (.int .i64 es.length)))
  | .row _ _ _ n=>some (.val (.pure (.int .i64 n)))
  | _=>none
 | .append sz bytes a b=>zm H sz bytes (a.eval env) (b.eval env)
 | .bN mx xs=>match (xs.map fun x=>x.eval env:List AV) with
  | .pure (.int k a)::rest=>(Gx mx k a rest).map fun n=>.val (.pure (.int k n))
  | _=>none
 | .clear zero x=>match x.eval env with
  | .pure .nils=>some (.val (.aQ []))
  | .row id sz off len=>if zero.length=sz then match H.get id with
   | .cells true cs=>if off*sz+len*sz<=cs.length then
     some (.upd (.aQ []) (H.set id (.cells true (cs.take (off*sz)++(List.replicate len (zero.map AV.pure)).flatten++cs.drop (off*sz+len*sz)))))
    else none
   | _=>none else none
  | _=>none
def wanted (env:Env):Option (Option Nat×Bool)->Option Bool
 | none=>some true
 | some (some d,want)=>match env d with
  | .pure (.bool b)=>some (b == want)
  | .aQ []=>some false
  | _=>none
 | some (none,_)=>none
def apply (H:Heap):Eff->AV×Heap
 | .val v=>(v,H)
 | .new o v=>(v H.nx,H.alloc o)
 | .upd v H'=>(v,H')
def sG:Eff->Bool
 | .upd _ _=>true
 | _=>false
def l6 (cl:Callee):Nat->List af->Env->Heap->Option (Env×Heap)
 | _,[],env,H=>some (env,H)
 | pre,o::os,env,H=>match wanted env o.guard with
  | none=>none
  | some false=>l6 cl (pre - 1) os (oV env o.dst (.aQ [])) H
  | some true=>match step cl env H o.op with
   | none=>none
   | some e=>if pre≠0/\sG e then none else
    l6 cl (pre - 1) os (oV env o.dst (apply H e).1) (apply H e).2
abbrev Out:=Option (fZ×Env×Heap)
def iter (f:Env->Heap->Out):Nat->Env->Heap->Out
 | 0,_,_=>none
 | m+1,env,H=>match f env H with
  | some (.normal,env',H')=>iter f m env' H'
  | r=>r
def zF:Nat:=18446744073709551616
def exec (cl:Callee):aV->Env->Heap->Out
 | .skip,env,H=>some (.normal,env,H)
 | .region pre ops,env,H=>match l6 cl (pre.getD 0) ops env H with
  | some (env',H')=>some (.normal,env',H')
  | none=>none
 | .seq a b,env,H=>match exec cl a env H with
  | some (.normal,env',H')=>exec cl b env' H'
  | r=>r
 | .cond c a b,env,H=>match c.eval env with
  | .pure (.bool t)=>if t then exec cl a env H else exec cl b env H
  | _=>none
 | .block id c,env,H=>match exec cl c env H with
  | some (.exit i,env',H')=>if i=id then some (.normal,env',H') else some (.exit i,env',H')
  | r=>r
 | .loop c,env,H=>iter (exec cl c) zF env H
 | .exit id,env,H=>some (.exit id,env,H)
 | .ret,env,H=>some (.ret,env,H)
 | .rangeFunc f params assign body,env,H =>
  let id:=H.nx
  let H1:=H.alloc (.loop { env,params,assign,body,state:=.ready,pending:=.normal })
  let go (g:Nat) (xs:List AV):Out :=
   match cl.run g xs H1 with
   | some (_,H2)=>match H2.get id with
    | .loop r=>match r.state with
     | .busy=>none
     | _=>some (r.pending,env,H2.set id .dead)
    | _=>none
   | none=>none
  match f.eval env with
  | .pure (.func g caps)=>go g (.yield id::caps.map .pure)
  | .func g caps=>go g (.yield id::caps)
  | _=>none
def JL (env:Env) (H:Heap):mK->Option AV
 | .tmp t=>some (env t)
 | .cell t size agg=>match zY H size (env t) with
  | some cs=>rM agg cs
  | none=>none
def DW (env:Env) (H:Heap):List mK->Option (List AV)
 | []=>some []
 | r::rs=>match JL env H r with
  | none=>none
  | some v=>match DW env H rs with
   | none=>none
   | some vs=>some (v::vs)
def results (env:Env) (H:Heap) (rs:List mK):Option AV :=
 match DW env H rs with
 | some [v]=>some v
 | some vs=>some (.aQ vs)
 | none=>none
def zb (args:List AV):Env:=fun i=>(args[i]?).getD (.aQ [])
structure Prog where
 func:Nat->Option ai
 shared:Nat->Bool
 ext:Nat->Option (List PV->Option PV)
 lC:Nat->List AV->Heap->Option (AV×Heap)
inductive Target where
 | fn (f:Nat)
 | yield (id:Nat)
def call (G:Prog):Nat->Target->List AV->Heap->Option (AV×Heap)
 | 0,_,_,_=>none
 | n+1,tg,args,H =>
  let cl:Callee:={
   pure:=fun f ps=>match G.ext f with
    | some g=>g ps
    | none=>match call G n (.fn f) (ps.map .pure) Heap.empty with
     | some (v,H')=>(freeze H' false qw v).map (·.1)
     | none=>none
   shared:=G.shared
   run:=fun f xs H=>call G n (.fn f) xs H
   yield:=fun id xs H=>call G n (.yield id) xs H }
  match tg with
  | .fn f=>match G.lC f args H with
   | some r=>some r
   | none=>match G.func f with
    | none=>none
    | some fn =>
     if args.length=fn.wQ then
      match exec cl fn.body (zb args) H with
      | some (.normal,env,H')|some (.ret,env,H')=>match results env H' fn.results with
       | some v=>some (v,H')
       | none=>none
      | _=>none
     else none
  | .yield id=>match H.get id with
   | .loop r =>
    if args.length=r.params.length then
     match exec cl r.assign ((r.params.zip args).foldl (fun e x=>upd e x.1 x.2) r.env) H with
     | some (.normal,ji,H2)=>match H2.get id with
      | .loop r2=>match r2.state with
       | .ready=>match exec cl r.body ji (H2.set id (.loop { r2 with state:=.busy })) with
        | some (x,_,H3)=>match H3.get id with
         | .loop r3=>match x with
          | .normal=>some (.pure (.bool true),H3.set id (.loop { r3 with state:=.ready,pending:=.normal }))
          | x=>some (.pure (.bool false),H3.set id (.loop { r3 with state:=.done,pending:=x }))
         | _=>none
        | none=>none
       | _=>none
      | _=>none
     | _=>none
    else none
   | _=>none
def zK (G:Prog) (n:Nat) (f:Nat) (ps:List PV):Option PV :=
 match G.ext f with
 | some g=>g ps
 | none=>match call G n (.fn f) (ps.map .pure) Heap.empty with
  | some (v,H')=>(freeze H' false qw v).map (·.1)
  | none=>none
end Go.Proofs.YtmmhnfghklppiaaGreat.Vm
