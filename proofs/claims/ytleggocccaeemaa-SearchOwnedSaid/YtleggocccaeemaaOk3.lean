/- From the model's operations to the machine's: one at a time. It only defines. -/
import Derived.Test.YtleggocccaeemaaOk1
set_option linter.unusedVariables false
set_option linter.unusedSimpArgs false
namespace Go.Proofs.Ytleggocccaeemaa.Vm
open Go
def zhq:Value->Option PV
 | .bool b=>some (.bool b)
 | .int k n=>some (.int k n)
 | .string s=>some (.str s)
 | .pointer none=>some .nilp
 | .slice none 0 0=>some .nils
 | .nilFunc=>some .nilf
 | _=>none
def zb3:List Value->Option (List PV)
 | []=>some []
 | v::vs=>match zhq v with
  | none=>none
  | some p=>match zb3 vs with
   | none=>none
   | some ps=>some (p::ps)
def zhs:Value->Option PV
 | .agg cs=>(zb3 cs.toList).map .agg
 | v=>zhq v
def zu:Operand->Option Opnd
 | .tmp t=>some (.tmp t)
 | .const (.func (.func f) first caps)=>if first.size=0/\caps.size=0 then some (.const (.func f [])) else none
 | .const v=>(zhs v).map .const
 | .func f=>some (.const (.func f []))
 | .global _=>none
def zbh:List Operand->Option (List Opnd)
 | []=>some []
 | x::xs=>match zu x with
  | none=>none
  | some y=>match zbh xs with
   | none=>none
   | some ys=>some (y::ys)
def zbL:Option Operand->Option (Option Opnd)
 | none=>some none
 | some x=>(zu x).map some
def zR (P:Program) (t:TypeId):Option Nat:=(P.info? t).map (·.size)
def zdv (P:Program) (t:TypeId):Option Nat:=(P.info? t).map (·.bytes)
def zbi (P:Program) (t:TypeId):Option (List PV) :=
 match P.info? t with
 | some i=>match i.zero with
  | some z=>if z.cells.size=i.size then zb3 z.cells.toList else none
  | none=>none
 | none=>none
def aggP (P:Program) (t:TypeId):Option Bool :=
 match P.underlying t with
 | some (.struct _)|some (.array _ _)=>some true
 | some _=>some false
 | none=>none
def zlA (P:Program) (t:TypeId):Option PV :=
 match P.info? t with
 | some i=>match i.zero with
  | some z=>zhs z
  | none=>none
 | none=>none
def keyP (P:Program) (t:TypeId):Option Bool :=
 match P.underlying t with
 | some (.int _)=>some false
 | some .string=>some true
 | _=>none
def zeh (P:Program) (t:TypeId):Option Bool :=
 match P.underlying t with
 | some (.map k _)=>keyP P k
 | _=>none
def zhj (P:Program) (t:TypeId):Option PV :=
 match P.underlying t with
 | some (.map _ e)=>zlA P e
 | _=>none
def zdT (P:Program) (t:TypeId) (i:Nat):Option (Nat×Nat) :=
 match P.underlying t with
 | some (.struct fs)=>match fs[i]? with
  | some f=>(zR P f.type).map fun s=>(f.offset,s)
  | none=>none
 | some (.array _ e)=>(zR P e).map fun s=>(i*s,s)
 | _=>none
def zg0 (P:Program) (t:TypeId):Bool :=
 match P.underlying t with
 | some (.struct fs)=>fs.toList.all fun f=>(zR P f.type).isSome
 | some (.array _ e)=>(zR P e).isSome
 | _=>false
def zb4 (place:Nat->Option (Nat×Nat)):List (Nat×Operand)->Option (List (Nat×Nat×Opnd))
 | []=>some []
 | (i,x)::rest=>match place i with
  | none=>none
  | some (o,s)=>match zu x with
   | none=>none
   | some y=>match zb4 place rest with
    | none=>none
    | some ys=>if s=0 then none else some ((o,s,y)::ys)
def zfe (P:Program) (lv:TypeId->Nat->Option (List Nat)) (s at_:Nat):List Field->Option (List Nat)
 | []=>some []
 | f :: fs => if f.name = "_" then none else
  match zR P f.type,aggP P f.type,lv f.type (at_+f.offset),zfe P lv s at_ fs with
  | some sf,some g,some l,some ls=>if f.offset+sf<=s/\(g=false->sf=1) then some (l++ls) else none
  | _,_,_,_=>none
def zc6 (P:Program):Nat->TypeId->Nat->Option (List Nat)
 | 0,_,_=>none
 | d+1,t,at_=>match P.underlying t with
  | some (.int _)=>if at_ < 500000 then some [at_] else none
  | some .bool=>some [at_+500000]
  | some (.struct fs)=>if P.stoodInHeld t||P.eqGuardType P.depth t then none else
    match zR P t with
    | some s=>zfe P (zc6 P d) s at_ fs.toList
    | none=>none
  | _=>none
def zy (P:Program) (Z:List Nat) (o:Oper):Option VOp :=
 match o.op with
 | .move x|.assign x=>(zu x).map .mov
 | .pick c a b=>match zu c,zu a,zu b with
  | some c,some a,some b=>some (.pick c a b)
  | _,_,_=>none
 | .alloc t=>(zbi P t).map .alloc
 | .box _ x=>match o.dst with
  | some d=>if Z.contains d then (zu x).map .box else (zu x).map .boxF
  | none=>(zu x).map .box
 | .build t parts=>match zbi P t,zb4 (zdT P t) parts.toList with
  | some z,some ps=>if zg0 P t then some (.build z ps) else none
  | _,_=>none
 | .buildSlice t len parts=>match P.underlying t with
  | some (.slice e)=>match zR P e,zbi P e with
   | some s,some z=>if 0 < s/\len*s<=65536/\z.length=s then
     (zb4 (fun i=>some (i*s,s)) parts.toList).map fun ps=>.buildSlice s ((List.replicate len z).flatten) ps
    else none
   | _,_=>none
  | _=>none
 | .load t a=>match aggP P t,zR P t,zu a with
  | some g,some s,some x=>if g=false/\s≠1 then none else some (.load g s x)
  | _,_,_=>none
 | .store t a x=>match zR P t,zu a,zu x with
  | some s,some a,some x=>if s=0 then none else some (.store s a x)
  | _,_,_=>none
 | .nilCheck x=>(zu x).map .nilCheck
 | .binOp op t x y _=>match zu x,zu y,P.underlying t with
  | some x,some y,some d=>match d with
   | .struct _=>match zc6 P 8 t 0 with
    | some ls=>match zR P t with
     | some s=>if op=.eql then some (.aggEq false s ls x y) else if op=.neq then some (.aggEq true s ls x y) else none
     | none=>none
    | none=>none
   | .int _|.string=>some (.bin op .num x y)
   | .bool=>some (.bin op .bool x y)
   | .slice _=>some (.bin op .slice x y)
   | .pointer _=>some (.bin op .pointer x y)
   | .func _ _ _=>some (.bin op .func x y)
   | _=>none
  | _,_,_=>none
 | .unOp op _ x=>(zu x).map (.un op)
 | .convert src dst x=>match P.underlying src,P.underlying dst,zu x with
  | some (.int _),some (.int k),some x=>some (.toInt k x)
  | some .string,some .string,some x=>some (.strSame x)
  | some .string,some (.slice e),some x=>match P.underlying e,zR P e with
   | some (.int .u8),some 1=>some (.toBytes x)
   | _,_=>none
  | some (.slice e),some .string,some x=>match P.underlying e with
   | some (.int .u8)=>some (.toStr x)
   | _=>none
  | _,_,_=>none
 | .makeFunc (.func f) first caps=>if first.size=0 then (zbh caps.toList).map (.makeFunc f) else if caps.size=0 then (zbh first.toList).map (.makeMeth f) else none
 | .makeSlice t l c=>match P.underlying t with
  | some (.slice e)=>match zR P e,zdv P e,zbi P e,zu l,zu c with
   | some s,some b,some z,some l,some c=>if 0 < s/\z.length=s then some (.makeSlice s b z l c) else none
   | _,_,_,_,_=>none
  | _=>none
 | .slice t x lo hi none=>match P.underlying t,zu x,zbL lo,zbL hi with
  | some (.slice e),some x,some lo,some hi=>(zR P e).map fun s=>.slice s x lo hi
  | some .string,some x,some lo,some hi=>some (.substr x lo hi)
  | _,_,_,_=>none
 | .slice t x lo (some hi) (some mx)=>match P.underlying t,zu x,zbL lo,zu hi,zu mx with
  | some (.slice e),some x,some lo,some hi,some mx=>(zR P e).map fun s=>.slice3 s x lo hi mx
  | _,_,_,_,_=>none
 | .fieldAddr t x i=>match P.underlying t,zu x with
  | some (.struct fs),some x=>match fs[i]? with
   | some f=>match zR P f.type with
    | some s=>if s=0 then none else some (.fieldAddr f.offset x)
    | none=>none
   | none=>none
  | _,_=>none
 | .field t x i=>match P.underlying t,zu x with
  | some (.struct fs),some x=>match fs[i]? with
   | some f=>match zR P f.type,aggP P f.type with
    | some s,some g=>if g=false/\s≠1 then none else some (.field f.offset s g x)
    | _,_=>none
   | none=>none
  | _,_=>none
 | .indexAddr t x i=>match P.underlying t,zu x,zu i with
  | some (.array n e),some x,some i=>(zR P e).map fun s=>.indexAddr s (some n) x i
  | some (.slice e),some x,some i=>(zR P e).map fun s=>.indexAddr s none x i
  | _,_,_=>none
 | .index t x i=>match P.underlying t,zu x,zu i with
  | some (.array n e),some x,some i=>match zR P e,aggP P e with
   | some s,some g=>if g=false/\s≠1 then none else some (.index s n g x i)
   | _,_=>none
  | some .string,some x,some i=>some (.byteAt x i)
  | _,_,_=>none
 | .extract x i=>match o.dst with
  | some d=>if Z.contains d then (zu x).map (.idle i) else (zu x).map (.extract i)
  | none=>(zu x).map (.extract i)
 | .call c=>match c.callee with
  | .value f=>match zu f,zbh c.args.toList with
   | some f,some xs=>some (.call f xs)
   | _,_=>none
  | .builtin .len=>match c.args.toList,c.argTypes.toList with
   | [x],[t]=>match zu x,P.underlying t with
    | some x,some (.array n _)=>some (.lenArr n)
    | some x,some .string=>some (.lenStr x)
    | some x,some (.slice _)=>some (.lenSl x)
    | some x,some (.map _ _)=>some (.lenMap x)
    | _,_=>none
   | _,_=>none
  | .builtin .cap=>match c.args.toList,c.argTypes.toList with
   | [x],[t]=>match zu x,P.underlying t with
    | some x,some (.slice _)=>some (.capSl x)
    | _,_=>none
   | _,_=>none
  | .builtin .append=>match c.args.toList,c.argTypes.toList with
   | [x,y],[t,u]=>match zu x,zu y,P.underlying t,P.underlying u with
    | some x,some y,some (.slice e),some (.slice e')=>match zR P e,zdv P e,zR P e',zbi P e with
     | some s,some b,some s',some z=>if 0 < s/\s=s'/\z.length=s/\0 < b then some (.append s b x y) else none
     | _,_,_,_=>none
    | some x,some y,some (.slice e),some (.int _)=>match zR P e,zdv P e,zbi P e with
     | some s,some b,some z=>if 0 < s/\z.length=s/\0 < b then some (.appendZ s b z x y) else none
     | _,_,_=>none
    | _,_,_,_=>none
   | _,_=>none
  | .builtin .max=>(zbh c.args.toList).map (.minmax true)
  | .builtin .min=>(zbh c.args.toList).map (.minmax false)
  | .builtin .clear=>match c.args.toList,c.argTypes.toList with
   | [x],[t]=>match zu x,P.underlying t with
    | some x,some (.slice e)=>match zR P e,zbi P e with
     | some s,some z=>if 0 < s/\z.length=s then some (.clear z x) else none
     | _,_=>none
    | _,_=>none
   | _,_=>none
  | _=>none
 | .makeMap _ none=>some .makeMap
 | .lookup t m k ok=>match zeh P t,zhj P t,zu m,zu k with
  | some str,some z,some m,some k=>some (.lookup str z ok m k)
  | _,_,_,_=>none
 | .mapUpdate t m k x|.insert t m k x=>match zeh P t,zu m,zu k,zu x with
  | some str,some m,some k,some x=>some (.mapPut str m k x)
  | _,_,_,_=>none
 | _=>none
def zbQ (Z:List Nat) (dst:Option Nat) (v:VOp):VOp :=
 match dst with
 | none=>match v with
  | .store s (.tmp t) x=>if Z.contains (t+4000000) then .storeI s (.tmp t) x else
   if Z.contains (t+6000000) then .storeE s (.tmp t) x (Z.filterMap fun z=>if 7000000<=z/\z < 8000000 then some (.tmp (z - 7000000)) else none) else .store s (.tmp t) x
  | v=>v
 | some d=>match v with
  | .alloc z=>if Z.contains (d+4000000) then .allocR z else .alloc z
  | .mov x=>if Z.contains (d+1000000) then .movL x else .mov x
  | .fieldAddr off x=>if Z.contains (d+5000000) then .fieldL off x else .fieldAddr off x
  | .load g s x=>if Z.contains (d+5000000) then .loadL g s x else if Z.contains (d+8000000) then .loadP g s x else .load g s x
  | .slice s x lo hi=>if Z.contains (d+1000000) then .sliceL s x lo hi else .slice s x lo hi
  | .buildSlice s [] []=>if Z.contains (d+2000000) then .voidSlice s else .buildSlice s [] []
  | .buildSlice s z ps=>if Z.contains (d+9000000) then .buildF s z ps else .buildSlice s z ps
  | .append s b x y=>if Z.contains (d+3000000) then .appendE s b x y else if Z.contains (d+11000000) then .appB s b x y (Z.filterMap fun z=>if 7000000<=z/\z < 8000000 then some (.tmp (z - 7000000)) else none) else .append s b x y
  | .call f xs=>if Z.contains (d+13000000) then .callD f xs else if Z.contains (d+10000000) then .callE f xs (Z.filterMap fun z=>if 7000000<=z/\z < 8000000 then some (.tmp (z - 7000000)) else none) else .call f xs
  | .build z ps=>if Z.contains (d+9000000) then .buildL z ps else .build z ps
  | v=>v
def zcs (ops:Array Oper) (g:Option (Nat×Bool)):Option (Option (Option Nat×Bool)) :=
 match g with
 | none=>some none
 | some (j,want)=>match ops[j]? with
  | some o=>match o.dst with
   | some d=>some (some (some d,want))
   | none=>none
  | none=>none
def zc0 (P:Program) (Z:List Nat) (nt:Nat) (ops:Array Oper) (o:Oper):Option VOper :=
 match zcs ops o.guard with
 | some g=>match o.dst with
  | some d=>if d < nt then some ⟨some d,zbQ Z (some d) ((zy P Z o).getD .stuck),g⟩ else none
  | none=>some ⟨none,zbQ Z none ((zy P Z o).getD .stuck),g⟩
 | none=>none
def zW (P:Program) (Z:List Nat) (nt:Nat) (ops:Array Oper):List Oper->Option (List VOper)
 | []=>some []
 | o::os=>match zc0 P Z nt ops o with
  | none=>none
  | some v=>match zW P Z nt ops os with
   | none=>none
   | some vs=>some (v::vs)
def zU:Opnd->List Nat
 | .tmp t=>[t]
 | .const _=>[]
def VOp.reads:VOp->List Nat
 | .mov x|.box x|.load _ _ x|.nilCheck x|.un _ x|.toInt _ x|.strSame x|.toBytes x|.toStr x|.fieldAddr _ x|.field _ _ _ x|.extract _ x|.lenStr x|.lenMap x|.lenSl x|.clear _ x|.capSl x|.boxF x|.idle _ x|.movL x|.fieldL _ x|.loadL _ _ x|.loadP _ _ x=>zU x
 | .pick a b c|.mapPut _ a b c=>zU a++zU b++zU c
 | .alloc _|.lenArr _|.makeMap|.stuck|.voidSlice _|.allocR _=>[]
 | .build _ ps|.buildL _ ps|.buildSlice _ _ ps|.buildF _ _ ps=>ps.flatMap fun p=>zU p.2.2
 | .appendZ _ _ _ a x|.store _ a x|.bin _ _ a x|.aggEq _ _ _ a x|.makeSlice _ _ _ a x|.indexAddr _ _ a x|.index _ _ _ a x|.byteAt a x|.append _ _ a x|.appendE _ _ a x|.storeI _ a x|.lookup _ _ _ a x=>zU a++zU x
 | .makeFunc _ xs|.makeMeth _ xs|.minmax _ xs=>xs.flatMap zU
 | .slice _ x lo hi|.sliceL _ x lo hi|.substr x lo hi=>zU x++(lo.map zU).getD []++(hi.map zU).getD []
 | .storeE _ a x ls=>zU a++zU x++ls.flatMap zU
 | .slice3 _ x lo hi mx=>zU x++(lo.map zU).getD []++zU hi++zU mx
 | .call f xs|.callD f xs=>zU f++xs.flatMap zU
 | .callE f xs ls=>zU f++xs.flatMap zU++ls.flatMap zU
 | .appB _ _ a x ls=>zU a++zU x++ls.flatMap zU
def VOp.plain:VOp->VOp
 | .storeE s a x _=>.store s a x
 | .callE f xs _=>.call f xs
 | .appB s b a x _=>.append s b a x
 | v=>v
def VOper.plain (o:VOper):VOper:={ o with op:=o.op.plain }
def VOper.reads (o:VOper):List Nat:=o.op.reads++(match o.guard with|some (some d,_)=>[d]|_=>[])
def zcI (o:Oper) (j:Nat):Bool:=o.after.any fun e=>e.on == j&&Region.binds .any e
def znv (ms:List Nat) (o:Oper):Nat:=o.after.toList.foldl (fun m e=>if Region.binds .any e then m ||| (2 ^ e.on) ||| ms.getD e.on 0 else m) 0
def masks:List Oper->List Nat->List Nat
 | [],ms=>ms
 | o::os,ms=>masks os (ms++[znv ms o])
def zav (v:VOper):Bool:=match v.op with
 | .idle _ _|.movL _|.sliceL _ _ _ _|.fieldL _ _|.loadL _ _ _|.loadP _ _ _|.buildF _ _ _|.buildL _ _=>true
 | _=>false
def zc3 (v:VOper):Option Opnd:=match v.op with
 | .loadL _ _ x=>some x
 | _=>none
def zga:Opnd->Opnd->Bool
 | .tmp a,.tmp b=>a == b
 | _,_=>false
def zcp (b:VOper) (x:Opnd):Bool:=match b.op with
 | .storeE _ _ _ ls|.callE _ _ ls|.appB _ _ _ _ ls=>ls.any fun l=>zga l x
 | .fieldAddr _ _=>true
 | _=>false
def zjk (v:VOper):Bool:=match v.op with
 | .mapPut _ _ _ _=>true
 | _=>false
def za2 (vs:List VOper) (i:Nat):Bool:=match vs[i]? with
 | some v=>zav v
 | none=>false
def zlk (ms:List Nat) (vs:List VOper) (i:Nat):Bool:=(List.range i).all fun j=>(ms.getD i 0).testBit j||za2 vs j
def znW (ms:List Nat) (vs:List VOper) (pre i:Nat) (v:VOper):Bool :=
 match v.dst,v.guard with
 | some d,none=>(List.range vs.length).all fun j=>j < pre||j == i||(match vs[j]? with
  | some b=>b.dst != some d&&v.op.reads.all (fun t=>b.dst != some t)&&(!b.plain.reads.contains d||(ms.getD j 0).testBit i)
  | none=>true)
 | _,_=>false
def zfL (v:VOper):Bool:=match v with
 | ⟨none,.storeI _ (.tmp _) _,none⟩=>true
 | _=>false
def inits (vs:List VOper) (pre:Nat):Nat:=((vs.drop pre).takeWhile zfL).length
def zn7 (vs:List VOper) (ops:Array Oper) (pre i:Nat):Bool:=match vs[i]? with
 | some v=>(List.range pre).all fun j=>match vs[j]? with
   | some y=>(match y.dst with
    | some d=>!v.reads.contains d||zcI (ops.getD i default) j
    | none=>true)
   | none=>true
 | none=>false
def zlV (v:VOper):Bool:=match v.op with
 | .storeE _ _ _ _=>true
 | _=>false
def zlL (v:VOper):Bool:=match v.op with
 | .callE _ _ _|.appB _ _ _ _ _=>true
 | _=>false
def zkr (vs:List VOper):Nat:=vs.length - (vs.reverse.takeWhile fun v=>!zav v).length
def zgV (ops:Array Oper) (vs:List VOper):Nat :=
 if vs.any zfL then vs.findIdx zfL else if vs.any zlV then vs.findIdx zlV else (fun m=>if vs.any zlL&&decide (m < zkr vs) then vs.findIdx zlL else m) (ops.size - ((List.range ops.size).reverse.takeWhile (zlk (masks ops.toList []) vs)).length)
def zda (ops:Array Oper) (vs:List VOper) (pre:Nat):Bool :=
 -- edges lead back
 ((List.range ops.size).all fun i=>(ops.getD i default).after.all fun e=>!Region.binds .any e||e.on < i) &&
 -- from 'pre' on everything waits for everything before it
 ((List.range ops.size).all fun i=>i < pre+inits vs pre||zlk (masks ops.toList []) vs i) &&
 ((List.range ops.size).all fun i=>i < pre||pre+inits vs pre<=i||zn7 vs ops pre i) &&
 ((List.range vs.length).all fun i=>match vs[i]? with
  | some v=>(match zc3 v with
   | some x=>(List.range vs.length).all fun j=>j < pre||(match vs[j]? with
    | some b=>zjk b||zcp b x||((masks ops.toList []).getD j 0).testBit i
    | none=>true)
   | none=>true)
  | none=>true) &&
 decide (pre<=ops.size) &&
 ((List.range vs.length).all fun i=>match vs[i]? with
  | some v=>!zav v||znW (masks ops.toList []) vs pre i v
  | none=>true) &&
 -- among the first ones each slot is written once,and what is read was written before,by one that must come first,or not at all
 ((List.range pre).all fun i=>(List.range pre).all fun j =>
  match vs[i]?,vs[j]? with
  | some a,some b =>
   (match b.dst with
    | some d=>(i == j||a.dst != some d)&&(!a.reads.contains d||(j < i&&zcI (ops.getD i default) j))
    | none=>true)
  | _,_=>false) &&
 -- and so among those that may be done late
 ((List.range vs.length).all fun i=>(List.range vs.length).all fun j =>
  match vs[i]?,vs[j]? with
  | some a,some b=>!(zav a&&zav b) ||
   (match b.dst with
    | some d=>(i == j||a.dst != some d)&&(!a.reads.contains d||(j < i&&zcI (ops.getD i default) j))
    | none=>true)
  | _,_=>true)
def zkW (pos:Nat->Nat) (e:Edge):Edge:={ e with on:=pos e.on }
def zcQ (pos:Nat->Nat) (o:Oper):Oper:={ o with after:=o.after.map (zkW pos),guard:=o.guard.map fun g=>(pos g.1,g.2) }
def zce (pos:List Nat) (i:Nat):Nat:=if i < pos.length then pos.getD i 0 else i
def reorder (ops:Array Oper) (order pos:List Nat):Array Oper:=(order.map fun i=>zcQ (zce pos) (ops.getD i default)).toArray
def zkJ (n:Nat) (order pos:List Nat):Bool :=
 order.length == n&&pos.length == n&&(List.range n).all fun i=>pos.getD i 0 < n&&order.getD i 0 < n&&order.getD (pos.getD i 0) 0 == i&&pos.getD (order.getD i 0) 0 == i
def zqV (Z:List Nat) (ops:Array Oper) (vs:List VOper) (pre:Nat):Option (List Nat×List Nat×List Nat) :=
 let n:=vs.length
 let at_ (i:Nat):VOper:=(vs[i]?).getD ⟨none,.stuck,none⟩
 -- literals without elements,to which a row is appended early
 let voids:List (Nat×Nat):=(List.range pre).filterMap fun i=>match at_ i with
  | ⟨some d,.append _ _ (.tmp t) _,_⟩ =>
   if (List.range i).any (fun j=>match at_ j with|⟨some t',.buildSlice _ [] [],none⟩=>t' == t|_=>false)&&(List.range n).all (fun j=>j == i || !(at_ j).reads.contains t) then some (t,d) else none
  | _=>none
 let isVoid (d:Nat):Bool:=voids.any fun v=>v.2 == d
 -- appending in a chain
 let bad:Option Nat:=(List.range pre).find? fun i=>match at_ i with
  | ⟨some d,.append _ _ (.tmp t) _,_⟩=>!isVoid d&&(List.range i).any (fun j=>match at_ j with|⟨some t',.append _ _ _ _,_⟩=>t' == t|_=>false)
  | _=>false
 let Zv:=voids.flatMap fun v=>[v.1+2000000,v.2+3000000]
 -- boxes laid early and written to early,once
 let firsts:List (Nat×Nat):=(List.range pre).filterMap fun i=>match at_ i with
  | ⟨none,.store _ (.tmp t) _,none⟩ =>
   if (List.range i).any (fun j=>match at_ j with|⟨some t',.alloc _,none⟩=>t' == t|_=>false)&&(List.range n).all (fun j=>j == i || !(at_ j).reads.contains t) then some (i,t) else none
  | _=>none
 let isFirst (i:Nat):Bool:=firsts.any fun f=>f.1 == i
 if !firsts.isEmpty then
  -- the last operation too,if it is such a write that waits for all
  let more:List (Nat×Nat):=(List.range n).filterMap fun i=>if i < pre then none else match at_ i with
   | ⟨none,.store _ (.tmp t) _,none⟩ =>
    if (List.range i).any (fun j=>match at_ j with|⟨some t',.alloc _,none⟩=>t' == t|_=>false)&&(List.range n).all (fun j=>j == i || !(at_ j).reads.contains t)&&decide (i == pre) then some (i,t) else none
   | _=>none
  let order:=(List.range pre).filter (fun i=>!isFirst i)++(List.range pre).filter isFirst++(List.range n).filter (fun i=>pre<=i)
  let pos:=(List.range n).map fun j=>order.findIdx (· == j)
  some (order,pos,(firsts++more).map fun f=>f.2+4000000)
 else
 -- a call in the caller's memory,told by a mark
 let bad:Option Nat:=match bad with
  | some i=>some i
  | none=>(List.range n).find? fun i=>match at_ i with
   | ⟨some _,.callE _ _ _,none⟩|⟨some _,.appB _ _ _ _ _,none⟩=>true
   | _=>false
 match bad with
 | none=>if !voids.isEmpty then some (List.range n,List.range n,Zv) else
  match (List.range pre).find? (fun i=>zjk (at_ i)||(match at_ i with|⟨none,.store _ (.tmp _) _,none⟩=>true|_=>false)) with
  | none=>none
  | some p =>
   -- an early write,and reads of cells that need not wait for it
   let ms:=masks ops.toList []
   let own:List Nat:=match at_ p with
    | ⟨none,.store _ (.tmp t) _,none⟩=>[t+6000000]
    | _=>[]
   some (List.range n,List.range n,own++(List.range p).flatMap fun j=>if (ms.getD p 0).testBit j then [] else match at_ j with
    | ⟨some d,.mov _,none⟩=>[d+1000000]
    | ⟨some d,.fieldAddr _ _,none⟩=>[d+5000000]
    | ⟨some d,.load _ _ (.tmp a),none⟩=>[d+5000000,a+7000000]
    | ⟨some d,.buildSlice _ _ _,none⟩|⟨some d,.build _ _,none⟩=>[d+9000000]
    | _=>[])
 | some i =>
  let ms:=masks ops.toList []
  let dep (j:Nat):Bool:=j == i||(ms.getD j 0).testBit i
  let soon (j:Nat):Bool:=dep j&&j != i&&(match (at_ j).dst with|some d=>Z.contains (d+12000000)|none=>false)
  let order:=(List.range n).filter (fun j=>!dep j)++[i]++(List.range n).filter soon++(List.range n).filter (fun j=>dep j&&j != i && !soon j)
  let pos:=(List.range n).map fun j=>order.findIdx (· == j)
  let lates0:=(List.range n).filterMap fun j=>if soon j then (at_ j).dst.map (· + 5000000) else none
  let lates:=(List.range n).flatMap fun j=>if dep j||(ms.getD i 0).testBit j||zav (at_ j) then [] else match (at_ j).dst with
   | some d=>match (at_ j).op with
    | .load _ _ (.tmp a)=>if Z.contains a then [d+5000000,a+7000000] else [d+8000000]
    | _=>[d+1000000,d+5000000,d+8000000,d+9000000].filter fun z=>match (at_ j).op with
    | .buildSlice _ _ _|.build _ _=>z == d+9000000
    | .load _ _ _=>z == d+8000000
    | .fieldAddr _ _=>z == d+5000000
    | _=>z == d+1000000
   | none=>[]
  some (order,pos,lates0++lates++Zv)
def zbp (P:Program) (Z:List Nat) (nt:Nat) (ops:Array Oper) (vs:List VOper):Option VCode :=
 match zqV Z ops vs (zgV ops vs) with
 | none=>none
 | some (order,pos,Z') =>
  let ops':=reorder ops order pos
  match zW P (Z'++Z) nt ops' ops'.toList with
  | none=>none
  | some vs'=>if zkJ ops.size order pos&&zda ops' vs' (zgV ops' vs') then some (.region (some (zgV ops' vs')) vs') else none
def zdB (s:Nat) (o:Oper):Oper:={ o with after:=(o.after.filter fun e=>decide (s<=e.on)).map fun e=>{ e with on:=e.on - s },guard:=o.guard.map fun g=>(g.1 - s,g.2) }
def za6 (ops:Array Oper) (s:Nat):Array Oper:=(ops.toList.take s).toArray
def zaD (ops:Array Oper) (s:Nat):Array Oper:=((ops.toList.drop s).map (zdB s)).toArray
def znh (ops:Array Oper) (s:Nat):Bool:=decide (s<=ops.size)&&(List.range ops.size).all fun i =>
 ((ops.getD i default).after.all fun e=>!Region.binds .any e||decide (e.on < i)) &&
 (if i < s then (match (ops.getD i default).guard with
  | some g=>decide (g.1 < s)
  | none=>true)
 else (match (ops.getD i default).guard with
  | some g=>decide (s<=g.1)
  | none=>true)&&(List.range s).all fun j=>((masks ops.toList []).getD i 0).testBit j)
def zqe (Z:List Nat) (id:Nat):List Nat:=(Z.filter fun z=>z / 1000 == 100000+id).map (· % 1000)
def zbr (P:Program) (Z:List Nat) (nt:Nat) (ops:Array Oper):Option VCode:=match zW P Z nt ops ops.toList with
 | none=>none
 | some vs=>match zbp P Z nt ops vs with
  | some c=>some c
  | none=>if zda ops vs (zgV ops vs) then some (.region (some (zgV ops vs)) vs) else none
def zb2 (P:Program) (Z:List Nat) (nt:Nat):List Nat->Array Oper->Option VCode
 | [],ops=>zbr P Z nt ops
 | s::ss,ops=>if znh ops s then match zbr P Z nt (za6 ops s),zb2 P Z nt ss (zaD ops s) with
  | some a,some b=>some (.seq a b)
  | _,_=>none else none
def zG (P:Program) (Z:List Nat) (nt:Nat):Code->Option VCode
 | .skip|.label _=>some .skip
 | .region id ops draw=>match zqe Z id with
  | s::ss=>if draw then zb2 P Z nt (s::ss) ops else none
  | []=>match zW P Z nt ops ops.toList with
   | none=>none
   | some vs=>if draw then match zbp P Z nt ops vs with
    | some c=>some c
    | none=>(if zda ops vs (zgV ops vs) then some (.region (some (zgV ops vs)) vs) else none) else some (.region none vs)
 | .seq a b=>match zG P Z nt a,zG P Z nt b with
  | some x,some y=>some (.seq x y)
  | _,_=>none
 | .cond c a b=>match zu c,zG P Z nt a,zG P Z nt b with
  | some z,some x,some y=>some (.cond z x y)
  | _,_,_=>none
 | .block id c=>(zG P Z nt c).map (.block id)
 | .loop c=>(zG P Z nt c).map .loop
 | .rangeFunc f params assign body=>match zu f,zG P Z nt assign,zG P Z nt body with
  | some z,some x,some y=>if params.toList.all (fun t=>decide (t < nt))&&x.noRange&&y.noRange then some (.rangeFunc z params.toList x y) else none
  | _,_,_=>none
 | .exit id=>some (.exit id)
 | .ret=>some .ret
 | .scope c=>zG P Z nt c
 | .goto _|.refuse _=>none
def zdw (P:Program):ResultVar->Option VRes
 | .tmp t=>some (.tmp t)
 | .cell t ty=>match aggP P ty,zR P ty with
  | some g,some s=>if g=false/\s≠1 then none else some (.cell t s g)
  | _,_=>none
def zbJ (P:Program):List ResultVar->Option (List VRes)
 | []=>some []
 | r::rs=>match zdw P r with
  | none=>none
  | some v=>match zbJ P rs with
   | none=>none
   | some vs=>some (v::vs)
def zo (P:Program) (Z:List Nat) (fn:Func):Option VFunc :=
 match fn.body,zbJ P fn.results.toList with
 | some c, some rs => if fn.name == "runtime.NumGoroutine" || !decide (fn.params.size + fn.nfree <= fn.ntmps) then none else
  (zG P Z fn.ntmps c).map fun v=>⟨fn.params.size+fn.nfree,fn.ntmps,rs,v⟩
 | _,_=>none
end Go.Proofs.Ytleggocccaeemaa.Vm
