/- A small machine of values: Go code of this program, run on data instead of memory. It only defines; nothing is proved here. -/
import Derived.OrdersIn
import Derived.RangeFuncLeaves
set_option linter.unusedVariables false
set_option linter.unusedSimpArgs false
namespace Go.Proofs.YtmmhnfghklppiaaGreat.Vm
open Go
inductive PV where
 | int (k:IntKind) (n:Int)
 | bool (b:Bool)
 | str (s:ByteArray)
 | agg (cs:List PV)
 | aM (vs:List PV)
 | nils
 | slice (sF:Bool) (sz:Nat) (es:List (List PV))
 | jU
 | ptr (sF:Bool) (cs:List PV) (off:Nat)
 | func (f:Nat) (caps:List PV)
 | jV
 | jH (f:Nat) (first:List PV)
 deriving Inhabited
inductive AV where
 | undef
 | pure (p:PV)
 | box (id off:Nat)
 | row (id sz off len:Nat)
 | agg (cs:List AV)
 | aM (vs:List AV)
 | func (f:Nat) (caps:List AV)
 | yield (id:Nat)
 | void (id sz:Nat)
 | jr (id:Nat)
 | jI (id sz off len:Nat)
 deriving Inhabited
inductive aa where
 | tmp (t:Nat)
 | const (p:PV)
 deriving Inhabited
inductive uf where
 | num
 | bool
 | slice
 | pointer
 | func
inductive jZ where
 | iw (x:aa)
 | pick (c a b:aa)
 | alloc (zero:List PV)
 | box (x:aa)
 | build (zero:List PV) (parts:List (Nat×Nat×aa))
 | buildSlice (sz:Nat) (zero:List PV) (parts:List (Nat×Nat×aa))
 | load (agg:Bool) (size:Nat) (x:aa)
 | store (size:Nat) (a x:aa)
 | nilCheck (x:aa)
 | bin (op:BinOp) (d:uf) (x y:aa)
 | mH (neg:Bool) (size:Nat) (O4:List Nat) (x y:aa)
 | un (op:UnOp) (x:aa)
 | toInt (k:IntKind) (x:aa)
 | qQ (x:aa)
 | qU (x:aa)
 | toStr (x:aa)
 | makeFunc (f:Nat) (caps:List aa)
 | fJ (f:Nat) (first:List aa)
 | makeSlice (sz bytes:Nat) (zero:List PV) (l c:aa)
 | slice (sz:Nat) (x:aa) (lo hi:Option aa)
 | substr (x:aa) (lo hi:Option aa)
 | fieldAddr (off:Nat) (x:aa)
 | field (off size:Nat) (agg:Bool) (x:aa)
 | indexAddr (sz:Nat) (arr:Option Nat) (x i:aa)
 | index (sz len:Nat) (agg:Bool) (x i:aa)
 | byteAt (x i:aa)
 | extract (i:Nat) (x:aa)
 | call (f:aa) (args:List aa)
 | uO (n:Nat)
 | uP (x:aa)
 | ug (x:aa)
 | append (sz bytes:Nat) (a b:aa)
 | bE (mx:Bool) (xs:List aa)
 | clear (zero:List PV) (x:aa)
 | slice3 (sz:Nat) (x:aa) (lo:Option aa) (hi mx:aa)
 | Bh (x:aa)
 | CB (x:aa)
 | idle (i:Nat) (x:aa)
 | qV (sz bytes:Nat) (zero:List PV) (a n:aa)
 | vS (x:aa)
 | rA (sz:Nat) (x:aa) (lo hi:Option aa)
 | j5 (sz:Nat)
 | jN (sz bytes:Nat) (a b:aa)
 | pq (zero:List PV)
 | bq (size:Nat) (a x:aa)
 | makeMap
 | lookup (str:Bool) (zero:PV) (ok:Bool) (m k:aa)
 | pE (str:Bool) (m k x:aa)
 | rC (x:aa)
 | jv (off:Nat) (x:aa)
 | fV (agg:Bool) (size:Nat) (x:aa)
 | bP (size:Nat) (a x:aa) (ls:List aa)
 | rD (agg:Bool) (size:Nat) (x:aa)
 | mI (sz:Nat) (zero:List PV) (parts:List (Nat×Nat×aa))
 | iR (f:aa) (args ls:List aa)
 | nL (zero:List PV) (parts:List (Nat×Nat×aa))
 | stuck
structure ae where
 dst:Option Nat
 op:jZ
 guard:Option (Option Nat×Bool)
inductive aP where
 | skip
 | region (pre:Option Nat) (ops:List ae)
 | seq (a b:aP)
 | cond (c:aa) (a b:aP)
 | block (id:Nat) (c:aP)
 | loop (c:aP)
 | rangeFunc (f:aa) (params:List Nat) (assign body:aP)
 | exit (id:Nat)
 | ret
def aP.bO:aP->Bool
 | .rangeFunc _ _ _ _=>false
 | .seq a b|.cond _ a b=>a.bO&&b.bO
 | .block _ c|.loop c=>c.bO
 | _=>true
inductive bW where
 | normal
 | exit (id:Nat)
 | ret
inductive j6 where
 | tmp (t:Nat)
 | cell (t:Nat) (size:Nat) (agg:Bool)
structure ai where
 uh:Nat
 ntmps:Nat
 results:List j6
 body:aP
abbrev Env:=Nat->AV
inductive yu where
 | ready
 | busy
 | done
structure Bi where
 env:Env
 params:List Nat
 assign:aP
 body:aP
 state:yu
 pending:bW
inductive aR where
 | dead
 | cells (own:Bool) (cs:List AV)
 | loop (r:Bi)
 | raw (zero:List PV)
 | iC (es:List (PV×PV))
structure Heap where
 nx:Nat
 arr:Nat->aR
def Heap.get (H:Heap) (id:Nat):aR:=if id < H.nx then H.arr id else .dead
def Heap.empty:Heap:=⟨0,fun _=>.dead⟩
def upd {α:Type} (f:Nat->α) (i:Nat) (v:α):Nat->α:=fun j=>if j=i then v else f j
def Heap.alloc (H:Heap) (o:aR):Heap:=⟨H.nx+1,upd H.arr H.nx o⟩
def Heap.set (H:Heap) (id:Nat) (o:aR):Heap:=⟨H.nx,upd H.arr id o⟩
def aR.freeze:aR->aR
 | .cells _ cs=>.cells false cs
 | o=>o
def Heap.freeze (H:Heap) (ids:List Nat):Heap:=⟨H.nx,fun i=>if ids.contains i then (H.arr i).freeze else H.arr i⟩
def mY {α:Type} (f:Nat->α) (d:Option Nat) (v:α):Nat->α :=
 match d with
 | some i=>upd f i v
 | none=>f
def aa.eval (env:Env):aa->AV
 | .tmp t=>env t
 | .const p=>.pure p
def AV.cells:AV->List AV
 | .undef=>[]
 | .pure (.agg ps)=>ps.map .pure
 | .agg cs=>cs
 | v=>[v]
def AV.one:AV->Bool
 | .undef|.agg _|.aM _|.pure (.agg _)|.pure (.aM _)=>false
 | _=>true
def Bj:AV->Bool
 | .agg _|.pure (.agg _)=>true
 | _=>false
def PV.one:PV->Bool
 | .agg _|.aM _=>false
 | _=>true
def nY:List AV->Option (List PV)
 | []=>some []
 | .pure p::vs=>(nY vs).map (p :: ·)
 | _=>none
def jw (cs:List AV):AV:=match nY cs with
 | some ps=>.pure (.agg ps)
 | none=>.agg cs
def GV (f:Nat) (cs:List AV):AV:=match nY cs with
 | some ps=>.pure (.func f ps)
 | none=>.func f cs
def pF (agg:Bool):List AV->Option AV
 | cs=>if agg then some (jw cs) else match cs with
  | [c]=>some c
  | _=>none
def PV.fZ:Nat->PV->Bool
 | 0,_=>false
 | n+1,p=>match p with
  | .agg cs|.aM cs|.func _ cs|.jH _ cs=>cs.all (PV.fZ n)
  | .slice h _ es=>es.isEmpty||(!h&&es.all fun e=>e.all (PV.fZ n))
  | .ptr h cs _=>!h&&cs.all (PV.fZ n)
  | _=>true
def PV.cold (p:PV):Bool:=p.fZ 12
def chunks {α:Type} (sz:Nat):Nat->List α->List (List α)
 | 0,_=>[]
 | n+1,l=>l.take sz::chunks sz n (l.drop sz)
def zO (fr:AV->Option (PV×List Nat)):List AV->Option (List PV×List Nat)
 | []=>some ([],[])
 | v::vs=>match fr v with
  | none=>none
  | some (p,is)=>match zO fr vs with
   | none=>none
   | some (ps,js)=>some (p::ps,is++js)
def freeze (H:Heap) (k:Bool):Nat->AV->Option (PV×List Nat)
 | 0,_=>none
 | n+1,v=>match v with
  | .pure p=>some (p,[])
  | .agg cs=>match zO (freeze H k n) cs with
   | some (ps,is)=>some (.agg ps,is)
   | none=>none
  | .aM cs=>match zO (freeze H k n) cs with
   | some (ps,is)=>some (.aM ps,is)
   | none=>none
  | .func f cs=>match zO (freeze H k n) cs with
   | some (ps,is)=>some (.func f ps,is)
   | none=>none
  | .box id off=>match H.get id with
   | .cells _ cs=>match zO (freeze H k n) cs with
    | some (ps,is)=>some (.ptr k ps off,id::is)
    | none=>none
   | _=>none
  | .row id sz off len=>match H.get id with
   | .cells _ cs=>match zO (freeze H k n) ((cs.drop (off*sz)).take (len*sz)) with
    | some (ps,is)=>if ps.length=len*sz then some (.slice k sz (chunks sz len ps),id::is) else none
    | none=>none
   | _=>none
  | .jI id sz off len=>match H.get id with
   | .cells _ cs=>match zO (freeze H k n) ((cs.drop (off*sz)).take (len*sz)) with
    | some (ps,is)=>if ps.length=len*sz then some (.slice k sz (chunks sz len ps),id::is) else none
    | none=>none
   | _=>none
  | _=>none
def nZ:Nat:=12
def F3:AV->Option UInt8
 | .pure (.int .u8 n)=>some (UInt8.ofNat n.toNat)
 | _=>none
inductive Eff where
 | val (v:AV)
 | new (o:aR) (v:Nat->AV)
 | upd (v:AV) (H:Heap)
structure Callee where
 pure:Nat->List PV->Option PV
 shared:Nat->Bool
 run:Nat->List AV->Heap->Option (AV×Heap)
 yield:Nat->List AV->Heap->Option (AV×Heap)
def Tm (str:Bool):PV->PV->Option Bool
 | .int k a,.int k' b=>if str=false/\k=k' then some (a == b) else none
 | .str a,.str b=>if str=true then some (a.data.toList == b.data.toList) else none
 | _,_=>none
def Nu (str:Bool) (key:PV):List (PV×PV)->Option (Option PV)
 | []=>some none
 | (k,v)::es=>match Tm str key k with
  | some true=>some (some v)
  | some false=>Nu str key es
  | none=>none
def Nv (str:Bool) (key v:PV):List (PV×PV)->Option (List (PV×PV))
 | []=>some [(key,v)]
 | (k,u)::es=>match Tm str key k with
  | some true=>some ((key,v)::es)
  | some false=>match Nv str key v es with
   | some es'=>some ((k,u)::es')
   | none=>none
  | none=>none
def fill:List AV->List (Nat×Nat×AV)->Option (List AV)
 | cs,[]=>some cs
 | cs,(off,size,v)::rest =>
  let vs:=v.cells
  if vs.length=size/\size≠0/\off+size<=cs.length then fill (cs.take off++vs++cs.drop (off+size)) rest else none
def sG (env:Env) (ps:List (Nat×Nat×aa)):List (Nat×Nat×AV):=ps.map fun (o,s,x)=>(o,s,x.eval env)
def Jk (op:BinOp) (x y:Int):Option Bool :=
 match op with
 | .eql=>some (x == y)
 | .neq=>some (x != y)
 | .lss=>some (decide (x < y))
 | .leq=>some (decide (x<=y))
 | .gtr=>some (decide (x > y))
 | .geq=>some (decide (x ≥ y))
 | _=>none
def yw (op:BinOp) (k:IntKind) (x y:Int):Option PV :=
 match op with
 | .add=>some (.int k (k.wrap (x+y)))
 | .sub=>some (.int k (k.wrap (x - y)))
 | .mul=>some (.int k (k.wrap (x*y)))
 | .quo=>if y=0 then none else some (.int k (k.wrap (x.tdiv y)))
 | .rem=>if y=0 then none else some (.int k (x.tmod y))
 | .and=>some (.int k (k.wrap (BitVec.ofInt k.bits x &&& BitVec.ofInt k.bits y).toNat))
 | .or=>some (.int k (k.wrap (BitVec.ofInt k.bits x ||| BitVec.ofInt k.bits y).toNat))
 | .xor=>some (.int k (k.wrap (BitVec.ofInt k.bits x ^^^ BitVec.ofInt k.bits y).toNat))
 | .andNot=>some (.int k (k.wrap (BitVec.ofInt k.bits x &&& ~~~BitVec.ofInt k.bits y).toNat))
 | _=>(Jk op x y).map .bool
def Tn (op:BinOp) (k:IntKind) (x y:Int):Option PV :=
 if y < 0 then none else
 match op with
 | .shl=>some (.int k (k.wrap (x*2 ^ (min y.toNat k.bits))))
 | .shr=>some (.int k (x.fdiv (2 ^ (min y.toNat k.bits))))
 | _=>none
def Tq (op:BinOp) (x y:ByteArray):Option PV :=
 match op with
 | .eql=>some (.bool (x.toList == y.toList))
 | .neq=>some (.bool (!(x.toList == y.toList)))
 | .lss=>some (.bool (Op.bytesLess x.toList y.toList))
 | .add=>if x.size+y.size<=4294967296 then some (.str (x++y)) else none
 | _=>none
def isNil (d:uf):AV->Option Bool
 | .pure .nils=>if d matches .slice then some true else none
 | .pure .jU=>if d matches .pointer then some true else none
 | .pure .jV=>if d matches .func then some true else none
 | .pure (.slice _ _ _)|.row _ _ _ _=>if d matches .slice then some false else none
 | .pure (.ptr _ _ _)|.box _ _=>if d matches .pointer then some false else none
 | .pure (.func _ _)|.func _ _=>if d matches .func then some false else none
 | _=>none
def GX (d:uf) (x y:AV):Option Bool :=
 match isNil d x,isNil d y with
 | some true,some b=>some b
 | some false,some true=>some false
 | some false,some false=>none
 | _,_=>match d,x,y with
  | .bool,.pure (.bool a),.pure (.bool b)=>some (a == b)
  | _,_,_=>none
def fK (op:BinOp) (d:uf) (x y:AV):Option AV :=
 match x,y with
 | .pure (.int k a),.pure (.int k' b) =>
  if op=.shl\/op=.shr then (Tn op k a b).map .pure else
  if k=k' then (yw op k a b).map .pure else none
 | .pure (.str a),.pure (.str b)=>(Tq op a b).map .pure
 | x,y=>match op with
  | .eql=>(GX d x y).map fun b=>.pure (.bool b)
  | .neq=>(GX d x y).map fun b=>.pure (.bool (!b))
  | _=>none
def KS (op:UnOp) (x:AV):Option AV :=
 match op,x with
 | .not,.pure (.bool b)=>some (.pure (.bool (!b)))
 | .neg,.pure (.int k n)=>some (.pure (.int k (k.wrap (0 - n))))
 | _,_=>none
def vI:List AV->List AV->List Nat->Option Bool
 | _,_,[]=>some true
 | xs,ys,o::os=>if o < 500000 then (match xs[o]?,ys[o]? with
  | some (.pure (.int k a)),some (.pure (.int k' b))=>if k=k' then (if a == b then vI xs ys os else some false) else none
  | _,_=>none)
  else (match xs[o - 500000]?,ys[o - 500000]? with
  | some (.pure (.bool a)),some (.pure (.bool b))=>if a == b then vI xs ys os else some false
  | _,_=>none)
def xP (i:Int) (n:Nat):Option Nat:=if 0<=i/\i<=n then some i.toNat else none
def bound (env:Env) (n dflt:Nat):Option aa->Option Nat
 | none=>some dflt
 | some x=>match x.eval env with
  | .pure (.int _ i)=>xP i n
  | _=>none
def Eg (mx:Bool) (k:IntKind):Int->List AV->Option Int
 | a,[]=>some a
 | a,.pure (.int _ b)::rest=>Eg mx k (if mx then (if b > a then b else a) else (if b < a then b else a)) rest
 | _,_=>none
def zH (H:Heap) (sz:Nat):AV->Option (List AV×Nat)
 | .pure .nils=>some ([],0)
 | .pure (.slice _ _ es)=>if es.all (fun e=>e.length == sz) then some (es.flatten.map .pure,es.length) else none
 | .row id s off len=>if s=sz then match H.get id with
   | .cells _ cs=>if off*sz+len*sz<=cs.length then some ((cs.drop (off*sz)).take (len*sz),len) else none
   | _=>none else none
 | _=>none
def zl:Nat:=8796093022208
def Jl (H:Heap) (id sz off len:Nat):Option Nat :=
 match H.get id with
 | .cells _ cs=>some (max len (cs.length / sz - off))
 | _=>none
def Nw:AV->Option Nat
 | .pure .nils=>some 0
 | .pure (.slice _ _ es)=>some es.length
 | .row _ _ _ len=>some len
 | _=>none
def zk (H:Heap) (sz bytes:Nat) (a b:AV):Option Eff :=
 match zH H sz b with
 | none=>none
 | some (new,m) =>
  if !new.all AV.one then none else
  match a with
  | .pure .nils =>
   if m=0 then some (.val (.pure .nils)) else
   if m*sz<=zl/\m*bytes<=zl then some (.new (.cells true new) fun id=>.row id sz 0 m) else none
  | .row id s off n =>
   if s=sz then match H.get id with
    | .cells true cs =>
     if off*sz+(n+m)*sz<=cs.length then
      some (.upd (.row id sz off (n+m)) (H.set id (.cells true (cs.take (off*sz+n*sz)++new++cs.drop (off*sz+(n+m)*sz)))))
     else if off=0/\n*sz=cs.length/\(n+m)*sz<=zl/\(n+m)*bytes<=zl then
      some (.upd (.row H.nx sz 0 (n+m)) ((H.set id .dead).alloc (.cells true (cs++new))))
     else none
    | _=>none
   else none
  | .jI id s off n =>
   if s=sz then
    if m=0 then some (.val (.jI id s off n)) else
    match H.get id with
    | .cells _ cs =>
     if off*sz+n*sz<=cs.length/\(n+m)*sz<=zl/\(n+m)*bytes<=zl then
      some (.new (.cells true ((cs.drop (off*sz)).take (n*sz)++new)) fun id'=>.row id' sz 0 (n+m))
     else none
    | _=>none
   else none
  | _=>none
def Eh (sz:Nat) (lo:Option aa) (h m:Nat):AV->AV
 | .row id s off _=>if s=sz/\h=m/\lo.isNone=true then .jI id s off h else .undef
 | _=>.undef
def zD (cl:Callee) (H:Heap) (f:AV) (args:List AV):Option Eff :=
 let go (g:Nat) (xs:List AV):Option Eff :=
  if cl.shared g then
   match cl.run g xs H with
   | some (v,H')=>some (.upd v H')
   | none=>none
  else
   match zO (freeze H true nZ) xs with
   | none=>none
   | some (ps,ids) =>
    match cl.pure g ps with
    | none=>none
    | some r=>if ids.isEmpty||r.cold then some (.val (.pure r)) else some (.upd (.pure r) (H.freeze ids))
 match f with
 | .pure (.func g caps)=>go g (args++caps.map .pure)
 | .func g caps=>go g (args++caps)
 | .pure (.jH g first)=>go g (first.map .pure++(args++[]))
 | .yield id=>match cl.yield id args H with
  | some (v,H')=>some (.upd v H')
  | none=>none
 | _=>none
def zS (H:Heap) (size:Nat):AV->Option (List AV)
 | .pure (.ptr _ cs off)=>if off+size<=cs.length then some (((cs.drop off).take size).map .pure) else none
 | .box id off=>match H.get id with
  | .cells _ cs=>if off+size<=cs.length then some ((cs.drop off).take size) else none
  | _=>none
 | _=>none
def beside (id:Nat):AV->Bool
 | .box i _=>i != id
 | _=>true
def PV.ik:PV->PV->Bool
 | .int k a,.int k' b=>decide (k=k')&&a == b
 | .bool a,.bool b=>a == b
 | _,_=>false
def all2 {α:Type} (f:α->α->Bool):List α->List α->Bool
 | [],[]=>true
 | a::l,b::m=>f a b&&all2 f l m
 | _,_=>false
def PV.iE:Nat->PV->PV->Bool
 | 0,_,_=>false
 | n+1,p,q=>match p with
  | .slice h s es=>(match q with
   | .slice h' s' es'=>h == h'&&s == s'&&all2 (all2 (PV.iE n)) es es'
   | _=>false)
  | .ptr h cs o=>(match q with
   | .ptr h' cs' o'=>h == h'&&o == o'&&all2 (PV.iE n) cs cs'
   | _=>false)
  | .nils=>(match q with
   | .nils=>true
   | _=>false)
  | p=>p.ik q
def AV.jO:AV->AV->Bool
 | .pure p,.pure q=>PV.iE 6 p q
 | .box i o,.box j q=>i == j&&o == q
 | _,_=>false
def Bl:List AV->List AV->Bool
 | [],[]=>true
 | .pure p::l,.pure q::m=>p.ik q&&Bl l m
 | .func f cs::l,.func g ds::m=>f == g&&all2 AV.jO cs ds&&Bl l m
 | _,_=>false
def keeps (H H2:Heap):AV->Bool
 | .box id _=>match H.get id,H2.get id with
  | .cells o cs,.cells o2 cs2=>o == o2&&Bl cs cs2
  | _,_=>false
 | _=>false
def Ny (sz n:Nat):Nat:=if sz=0 then 0 else n / sz
def step (cl:Callee) (env:Env) (H:Heap):jZ->Option Eff
 | .iw x=>some (.val (x.eval env))
 | .pick c a b=>match c.eval env with
  | .pure (.bool t)=>some (.val (if t then a.eval env else b.eval env))
  | _=>none
 | .alloc zero=>some (.new (.cells true (zero.map .pure)) fun id=>.box id 0)
 | .box x=>some (.new (.cells true (x.eval env).cells) fun id=>.box id 0)
 | .build zero parts=>match fill (zero.map .pure) (sG env parts) with
  | some cs=>some (.val (jw cs))
  | none=>none
 | .buildSlice sz zero parts=>match fill (zero.map .pure) (sG env parts) with
  | some cs=>some (.new (.cells true cs) fun id=>.row id sz 0 (if sz=0 then 0 else cs.length / sz))
  | none=>none
 | .nL zero parts=>match fill (zero.map .pure) (sG env parts) with
  | some cs=>some (.val (jw cs))
  | none=>none
 | .mI sz zero parts=>match fill (zero.map .pure) (sG env parts) with
  | some cs=>match nY cs with
   | some ps=>if ps.length=Ny sz cs.length*sz then some (.val (.pure (.slice false sz (chunks sz (Ny sz cs.length) ps)))) else none
   | none=>none
  | none=>none
 | .load agg size x=>match zS H size (x.eval env) with
  | some cs=>(pF agg cs).map .val
  | none=>none
 | .store size a x=>match a.eval env with
  | .box id off=>match H.get id with
   | .cells true cs =>
    let vs:=(x.eval env).cells
    if vs.length=size/\size≠0/\vs.all AV.one=true/\off+size<=cs.length then
     some (.upd (.aM []) (H.set id (.cells true (cs.take off++vs++cs.drop (off+size)))))
    else none
   | _=>none
  | _=>none
 | .rD agg size x=>match x.eval env with
  | .pure (.ptr _ cs off)=>if off+size<=cs.length then (pF agg (((cs.drop off).take size).map .pure)).map .val else none
  | _=>none
 | .bP size a x ls=>match a.eval env with
  | .box id off=>if ls.all (fun l=>beside id (l.eval env))=true then match H.get id with
   | .cells true cs =>
    let vs:=(x.eval env).cells
    if vs.length=size/\size≠0/\vs.all AV.one=true/\off+size<=cs.length then
     some (.upd (.aM []) (H.set id (.cells true (cs.take off++vs++cs.drop (off+size)))))
    else none
   | _=>none else none
  | _=>none
 | .nilCheck x=>match isNil .pointer (x.eval env),isNil .func (x.eval env) with
  | some false,_|_,some false=>some (.val (x.eval env))
  | _,_=>none
 | .bin op d x y=>(fK op d (x.eval env) (y.eval env)).map .val
 | .mH neg size O4 x y =>
  if Bj (x.eval env)=true/\Bj (y.eval env)=true/\(x.eval env).cells.length=size/\(y.eval env).cells.length=size then
   match vI (x.eval env).cells (y.eval env).cells O4 with
   | some b=>some (.val (.pure (.bool (b != neg))))
   | none=>none
  else none
 | .un op x=>(KS op (x.eval env)).map .val
 | .toInt k x=>match x.eval env with
  | .pure (.int _ n)=>some (.val (.pure (.int k (k.wrap n))))
  | _=>none
 | .qQ x=>match x.eval env with
  | .pure (.str s)=>some (.val (.pure (.str s)))
  | _=>none
 | .qU x=>match x.eval env with
  | .pure (.str s)=>some (.new (.cells true (s.data.toList.map fun b=>.pure (.int .u8 b.toNat))) fun id=>.row id 1 0 s.size)
  | _=>none
 | .toStr x=>match zH H 1 (x.eval env) with
  | some (cs,_)=>match cs.mapM F3 with
   | some bs=>some (.val (.pure (.str ⟨bs.toArray⟩)))
   | none=>none
  | none=>none
 | .makeFunc f caps=>some (.val (GV f (caps.map (·.eval env))))
 | .fJ f first=>match nY (first.map (·.eval env)) with
  | some ps=>some (.val (.pure (.jH f ps)))
  | none=>none
 | .makeSlice sz bytes zero l c=>match l.eval env,c.eval env with
  | .pure (.int _ a),.pure (.int _ b) =>
   if 0<=a/\a=b/\a.toNat*sz<=zl/\a.toNat*bytes<=zl/\a.toNat<=zl then
    some (.new (.cells true ((List.replicate a.toNat (zero.map AV.pure)).flatten)) fun id=>.row id sz 0 a.toNat)
   else none
  | _,_=>none
 | .slice sz x lo hi=>match x.eval env with
  | .pure .nils=>match bound env 0 0 hi with
   | some _=>match bound env 0 0 lo with
    | some _=>some (.val (.pure .nils))
    | none=>none
   | none=>none
  | .pure (.slice k s es)=>if s=sz then match bound env es.length es.length hi with
   | some h=>match bound env h 0 lo with
    | some l=>some (.val (.pure (.slice k sz ((es.take h).drop l))))
    | none=>none
   | none=>none else none
  | .row id s off len=>if s=sz then match Jl H id sz off len with
   | some N=>match bound env N len hi with
    | some h=>match bound env h 0 lo with
     | some l=>some (.val (if l≠0/\h=l then .pure (.slice false sz []) else .row id sz (off+l) (h - l)))
     | none=>none
    | none=>none
   | none=>none else none
  | _=>none
 | .slice3 sz x lo hi mx=>match Nw (x.eval env) with
  | some len=>match bound env len len (some mx) with
   | some m=>match bound env m m (some hi) with
    | some h=>match bound env h 0 lo with
     | some _=>some (.val (Eh sz lo h m (x.eval env)))
     | none=>none
    | none=>none
   | none=>none
  | none=>none
 | .Bh x=>match x.eval env with
  | .pure .nils=>some (.val (.pure (.int .i64 0)))
  | _=>none
 | .CB x=>match nY (x.eval env).cells with
  | some ps=>some (.val (.pure (.ptr false ps 0)))
  | none=>none
 | .idle i x=>match x.eval env with
  | .pure (.aM vs)=>match vs[i]? with
   | some _=>some (.val .undef)
   | none=>none
  | .aM vs=>match vs[i]? with
   | some _=>some (.val .undef)
   | none=>none
  | _=>none
 | .qV sz bytes zero a n=>match a.eval env,n.eval env with
  | .pure .nils,.pure (.int _ k) =>
   if 0<=k/\k.toNat*sz<=zl/\k.toNat*bytes<=zl/\k.toNat<=zl then
    if k=0 then some (.val (.pure .nils)) else some (.new (.cells true ((List.replicate k.toNat (zero.map AV.pure)).flatten)) fun id=>.row id sz 0 k.toNat)
   else none
  | _,_=>none
 | .vS x=>some (.val (x.eval env))
 | .rA sz x lo hi=>match x.eval env with
  | .pure .nils=>match bound env 0 0 hi with
   | some _=>match bound env 0 0 lo with
    | some _=>some (.val (.pure .nils))
    | none=>none
   | none=>none
  | .pure (.slice k s es)=>if s=sz then match bound env es.length es.length hi with
   | some h=>match bound env h 0 lo with
    | some l=>some (.val (.pure (.slice k sz ((es.take h).drop l))))
    | none=>none
   | none=>none else none
  | _=>none
 | .pq zero=>some (.new (.raw zero) fun id=>.box id 0)
 | .bq size a x=>match a.eval env with
  | .box id off=>match H.get id with
   | .raw z =>
    let vs:=(x.eval env).cells
    if vs.length=size/\size≠0/\vs.all AV.one=true/\off+size<=(z.map AV.pure).length then
     some (.upd (.aM []) (H.set id (.cells true ((z.map AV.pure).take off++vs++(z.map AV.pure).drop (off+size)))))
    else none
   | _=>none
  | _=>none
 | .j5 sz=>some (.new (.cells true []) fun id=>.void id sz)
 | .jN sz bytes a b=>match zH H sz (b.eval env) with
  | none=>none
  | some (new,m)=>if !new.all AV.one then none else match a.eval env with
   | .void id s=>if s=sz then (if m=0 then some (.val (.row id sz 0 0)) else
     if m*sz<=zl/\m*bytes<=zl then some (.new (.cells true new) fun id=>.row id sz 0 m) else none) else none
   | _=>none
 | .makeMap=>some (.new (.iC []) fun id=>.jr id)
 | .lookup str zero ok m k=>match m.eval env,k.eval env with
  | .jr id,.pure key=>match H.get id with
   | .iC es=>match Nu str key es with
    | some (some v)=>some (.val (.pure (if ok then .aM [v,.bool true] else v)))
    | some none=>some (.val (.pure (if ok then .aM [zero,.bool false] else zero)))
    | none=>none
   | _=>none
  | _,_=>none
 | .pE str m k x=>match m.eval env,k.eval env,x.eval env with
  | .jr id,.pure key,.pure v=>match H.get id with
   | .iC es=>match Nv str key v es with
    | some es'=>some (.upd (.aM []) (H.set id (.iC es')))
    | none=>none
   | _=>none
  | _,_,_=>none
 | .rC x=>match x.eval env with
  | .jr id=>match H.get id with
   | .iC es=>some (.val (.pure (.int .i64 es.length)))
   | _=>none
  | _=>none
 | .stuck=>none
 | .substr x lo hi=>match x.eval env with
  | .pure (.str s)=>match bound env s.size s.size hi with
   | some h=>match bound env h 0 lo with
    | some l=>some (.val (.pure (.str (s.extract l h))))
    | none=>none
   | none=>none
  | _=>none
 | .fieldAddr off x=>match x.eval env with
  | .pure (.ptr k cs o)=>some (.val (.pure (.ptr k cs (o+off))))
  | .box id o=>some (.val (.box id (o+off)))
  | _=>none
 | .jv off x=>match x.eval env with
  | .pure (.ptr k cs o)=>some (.val (.pure (.ptr k cs (o+off))))
  | .box id o=>some (.val (.box id (o+off)))
  | _=>none
 | .fV agg size x=>match zS H size (x.eval env) with
  | some cs=>(pF agg cs).map .val
  | none=>none
 | .field off size agg x =>
  let cs:=(x.eval env).cells
  if Bj (x.eval env)=true/\off+size<=cs.length then (pF agg ((cs.drop off).take size)).map .val else none
 | .indexAddr sz arr x i=>match i.eval env with
  | .pure (.int _ n)=>if 0<=n then match arr with
   | some len=>if n < len then match x.eval env with
    | .pure (.ptr k cs o)=>some (.val (.pure (.ptr k cs (o+n.toNat*sz))))
    | .box id o=>some (.val (.box id (o+n.toNat*sz)))
    | _=>none else none
   | none=>match x.eval env with
    | .pure (.slice k s es)=>if s=sz then match es[n.toNat]? with
     | some e=>some (.val (.pure (.ptr k e 0)))
     | none=>none else none
    | .row id s off len=>if s=sz/\n < len then some (.val (.box id (off*sz+n.toNat*sz))) else none
    | _=>none
   else none
  | _=>none
 | .index sz len agg x i=>match i.eval env with
  | .pure (.int _ n) =>
   let cs:=(x.eval env).cells
   if Bj (x.eval env)=true/\0<=n/\n < len/\n.toNat*sz+sz<=cs.length then (pF agg ((cs.drop (n.toNat*sz)).take sz)).map .val else none
  | _=>none
 | .byteAt x i=>match x.eval env,i.eval env with
  | .pure (.str s),.pure (.int _ n)=>if 0<=n then match s[n.toNat]? with
   | some b=>some (.val (.pure (.int .u8 b.toNat)))
   | none=>none else none
  | _,_=>none
 | .extract i x=>match x.eval env with
  | .pure (.aM vs)=>match vs[i]? with
   | some v=>some (.val (.pure v))
   | none=>none
  | .aM vs=>match vs[i]? with
   | some v=>some (.val v)
   | none=>none
  | _=>none
 | .call f args=>zD cl H (f.eval env) (args.map (·.eval env))
 | .iR f args ls=>match zD cl H (f.eval env) (args.map (·.eval env)) with
  | some (.upd v H2)=>if ls.all (fun l=>keeps H H2 (l.eval env))=true then some (.upd v H2) else none
  | _=>none
 | .uO n=>some (.val (.pure (.int .i64 n)))
 | .uP x=>match x.eval env with
  | .pure (.str s)=>some (.val (.pure (.int .i64 s.size)))
  | _=>none
 | .ug x=>match x.eval env with
  | .pure .nils=>some (.val (.pure (.int .i64 0)))
  | .pure (.slice _ _ es)=>some (.val (.pure (.int .i64 es.length)))
  | .row _ _ _ n=>some (.val (.pure (.int .i64 n)))
  | _=>none
 | .append sz bytes a b=>zk H sz bytes (a.eval env) (b.eval env)
 | .bE mx xs=>match (xs.map fun x=>x.eval env:List AV) with
  | .pure (.int k a)::rest=>(Eg mx k a rest).map fun n=>.val (.pure (.int k n))
  | _=>none
 | .clear zero x=>match x.eval env with
  | .pure .nils=>some (.val (.aM []))
  | .row id sz off len=>if zero.length=sz then match H.get id with
   | .cells true cs=>if off*sz+len*sz<=cs.length then
     some (.upd (.aM []) (H.set id (.cells true (cs.take (off*sz)++(List.replicate len (zero.map AV.pure)).flatten++cs.drop (off*sz+len*sz)))))
    else none
   | _=>none else none
  | _=>none
def wanted (env:Env):Option (Option Nat×Bool)->Option Bool
 | none=>some true
 | some (some d,want)=>match env d with
  | .pure (.bool b)=>some (b == want)
  | .aM []=>some false
  | _=>none
 | some (none,_)=>none
def apply (H:Heap):Eff->AV×Heap
 | .val v=>(v,H)
 | .new o v=>(v H.nx,H.alloc o)
 | .upd v H'=>(v,H')
def qm:Eff->Bool
 | .upd _ _=>true
 | _=>false
def zY (cl:Callee):Nat->List ae->Env->Heap->Option (Env×Heap)
 | _,[],env,H=>some (env,H)
 | pre,o::os,env,H=>match wanted env o.guard with
  | none=>none
  | some false=>zY cl (pre - 1) os (mY env o.dst (.aM [])) H
  | some true=>match step cl env H o.op with
   | none=>none
   | some e=>if pre≠0/\qm e then none else
    zY cl (pre - 1) os (mY env o.dst (apply H e).1) (apply H e).2
abbrev Out:=Option (bW×Env×Heap)
def iter (f:Env->Heap->Out):Nat->Env->Heap->Out
 | 0,_,_=>none
 | m+1,env,H=>match f env H with
  | some (.normal,env',H')=>iter f m env' H'
  | r=>r
def zI:Nat:=18446744073709551616
def exec (cl:Callee):aP->Env->Heap->Out
 | .skip,env,H=>some (.normal,env,H)
 | .region pre ops,env,H=>match zY cl (pre.getD 0) ops env H with
  | some (env',H')=>some (.normal,env',H')
  | none=>none
 | .seq a b,env,H=>match exec cl a env H with
  | some (.normal,env',H')=>exec cl b env' H'
  | r=>r
 | .cond c a b,env,H=>match c.eval env with
  | .pure (.bool t)=>if t then exec cl a env H else exec cl b env H
  | _=>none
 | .block id c,env,H=>match exec cl c env H with
  | some (.exit i,env',H')=>if i=id then some (.normal,env',H') else some (.exit i,env',H')
  | r=>r
 | .loop c,env,H=>iter (exec cl c) zI env H
 | .exit id,env,H=>some (.exit id,env,H)
 | .ret,env,H=>some (.ret,env,H)
 | .rangeFunc f params assign body,env,H =>
  let id:=H.nx
  let H1:=H.alloc (.loop { env,params,assign,body,state:=.ready,pending:=.normal })
  let go (g:Nat) (xs:List AV):Out :=
   match cl.run g xs H1 with
   | some (_,H2)=>match H2.get id with
    | .loop r=>match r.state with
     | .busy=>none
     | _=>some (r.pending,env,H2.set id .dead)
    | _=>none
   | none=>none
  match f.eval env with
  | .pure (.func g caps)=>go g (.yield id::caps.map .pure)
  | .func g caps=>go g (.yield id::caps)
  | _=>none
def GY (env:Env) (H:Heap):j6->Option AV
 | .tmp t=>some (env t)
 | .cell t size agg=>match zS H size (env t) with
  | some cs=>pF agg cs
  | none=>none
def Bn (env:Env) (H:Heap):List j6->Option (List AV)
 | []=>some []
 | r::rs=>match GY env H r with
  | none=>none
  | some v=>match Bn env H rs with
   | none=>none
   | some vs=>some (v::vs)
def results (env:Env) (H:Heap) (rs:List j6):Option AV :=
 match Bn env H rs with
 | some [v]=>some v
 | some vs=>some (.aM vs)
 | none=>none
def za (args:List AV):Env:=fun i=>(args[i]?).getD (.aM [])
structure Prog where
 func:Nat->Option ai
 shared:Nat->Bool
 ext:Nat->Option (List PV->Option PV)
 jy:Nat->List AV->Heap->Option (AV×Heap)
inductive Target where
 | fn (f:Nat)
 | yield (id:Nat)
def call (G:Prog):Nat->Target->List AV->Heap->Option (AV×Heap)
 | 0,_,_,_=>none
 | n+1,tg,args,H =>
  let cl:Callee:={
   pure:=fun f ps=>match G.ext f with
    | some g=>g ps
    | none=>match call G n (.fn f) (ps.map .pure) Heap.empty with
     | some (v,H')=>(freeze H' false nZ v).map (·.1)
     | none=>none
   shared:=G.shared
   run:=fun f xs H=>call G n (.fn f) xs H
   yield:=fun id xs H=>call G n (.yield id) xs H }
  match tg with
  | .fn f=>match G.jy f args H with
   | some r=>some r
   | none=>match G.func f with
    | none=>none
    | some fn =>
     if args.length=fn.uh then
      match exec cl fn.body (za args) H with
      | some (.normal,env,H')|some (.ret,env,H')=>match results env H' fn.results with
       | some v=>some (v,H')
       | none=>none
      | _=>none
     else none
  | .yield id=>match H.get id with
   | .loop r =>
    if args.length=r.params.length then
     match exec cl r.assign ((r.params.zip args).foldl (fun e x=>upd e x.1 x.2) r.env) H with
     | some (.normal,iM,H2)=>match H2.get id with
      | .loop r2=>match r2.state with
       | .ready=>match exec cl r.body iM (H2.set id (.loop { r2 with state:=.busy })) with
        | some (x,_,H3)=>match H3.get id with
         | .loop r3=>match x with
          | .normal=>some (.pure (.bool true),H3.set id (.loop { r3 with state:=.ready,pending:=.normal }))
          | x=>some (.pure (.bool false),H3.set id (.loop { r3 with state:=.done,pending:=x }))
         | _=>none
        | none=>none
       | _=>none
      | _=>none
     | _=>none
    else none
   | _=>none
def zF (G:Prog) (n:Nat) (f:Nat) (ps:List PV):Option PV :=
 match G.ext f with
 | some g=>g ps
 | none=>match call G n (.fn f) (ps.map .pure) Heap.empty with
  | some (v,H')=>(freeze H' false nZ v).map (·.1)
  | none=>none
end Go.Proofs.YtmmhnfghklppiaaGreat.Vm
