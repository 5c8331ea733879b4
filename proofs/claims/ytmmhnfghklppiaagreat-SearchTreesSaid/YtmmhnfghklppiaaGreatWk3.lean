/- From the model's operations to the machine's: one at a time. It only defines. -/
import Derived.Test.YtmmhnfghklppiaaGreatWk1
set_option linter.unusedVariables false
set_option linter.unusedSimpArgs false
namespace Go.Proofs.YtmmhnfghklppiaaGreat.Vm
open Go
def RB:Value->Option PV
 | .bool b=>some (.bool b)
 | .int k n=>some (.int k n)
 | .string s=>some (.str s)
 | .pointer none=>some .mD
 | .slice none 0 0=>some .nils
 | .nilFunc=>some .mE
 | _=>none
def ES:List Value->Option (List PV)
 | []=>some []
 | v::vs=>match RB v with
  | none=>none
  | some p=>match ES vs with
   | none=>none
   | some ps=>some (p::ps)
def RF:Value->Option PV
 | .agg cs=>(ES cs.toList).map .agg
 | v=>RB v
def zD:Operand->Option aa
 | .tmp t=>some (.tmp t)
 | .const (.func (.func f) first caps)=>if first.size=0/\caps.size=0 then some (.const (.func f [])) else none
 | .const v=>(RF v).map .const
 | .func f=>some (.const (.func f []))
 | .global _=>none
def yG:List Operand->Option (List aa)
 | []=>some []
 | x::xs=>match zD x with
  | none=>none
  | some y=>match yG xs with
   | none=>none
   | some ys=>some (y::ys)
def wR:Option Operand->Option (Option aa)
 | none=>some none
 | some x=>(zD x).map some
def iU (P:Program) (t:TypeId):Option Nat:=(P.info? t).map (·.size)
def JM (P:Program) (t:TypeId):Option Nat:=(P.info? t).map (·.bytes)
def yH (P:Program) (t:TypeId):Option (List PV) :=
 match P.info? t with
 | some i=>match i.zero with
  | some z=>if z.cells.size=i.size then ES z.cells.toList else none
  | none=>none
 | none=>none
def mF (P:Program) (t:TypeId):Option Bool :=
 match P.underlying t with
 | some (.struct _)|some (.array _ _)=>some true
 | some _=>some false
 | none=>none
def VK (P:Program) (t:TypeId):Option PV :=
 match P.info? t with
 | some i=>match i.zero with
  | some z=>RF z
  | none=>none
 | none=>none
def GJ (P:Program) (t:TypeId):Option Bool :=
 match P.underlying t with
 | some (.int _)=>some false
 | some .string=>some true
 | _=>none
def Qc (P:Program) (t:TypeId):Option Bool :=
 match P.underlying t with
 | some (.map k _)=>GJ P k
 | _=>none
def XU (P:Program) (t:TypeId):Option PV :=
 match P.underlying t with
 | some (.map _ e)=>VK P e
 | _=>none
def LF (P:Program) (t:TypeId) (i:Nat):Option (Nat×Nat) :=
 match P.underlying t with
 | some (.struct fs)=>match fs[i]? with
  | some f=>(iU P f.type).map fun s=>(f.offset,s)
  | none=>none
 | some (.array _ e)=>(iU P e).map fun s=>(i*s,s)
 | _=>none
def XV (P:Program) (t:TypeId):Bool :=
 match P.underlying t with
 | some (.struct fs)=>fs.toList.all fun f=>(iU P f.type).isSome
 | some (.array _ e)=>(iU P e).isSome
 | _=>false
def ET (place:Nat->Option (Nat×Nat)):List (Nat×Operand)->Option (List (Nat×Nat×aa))
 | []=>some []
 | (i,x)::rest=>match place i with
  | none=>none
  | some (o,s)=>match zD x with
   | none=>none
   | some y=>match ET place rest with
    | none=>none
    | some ys=>if s=0 then none else some ((o,s,y)::ys)
def RG (P:Program) (lv:TypeId->Nat->Option (List Nat)) (s at_:Nat):List Field->Option (List Nat)
 | []=>some []
 | f :: fs => if f.name = "_" then none else
  match iU P f.type,mF P f.type,lv f.type (at_+f.offset),RG P lv s at_ fs with
  | some sf,some g,some l,some ls=>if f.offset+sf<=s/\(g=false->sf=1) then some (l++ls) else none
  | _,_,_,_=>none
def LG (P:Program):Nat->TypeId->Nat->Option (List Nat)
 | 0,_,_=>none
 | d+1,t,at_=>match P.underlying t with
  | some (.int _)=>if at_ < 500000 then some [at_] else none
  | some .bool=>some [at_+500000]
  | some (.struct fs)=>if P.stoodInHeld t||P.eqGuardType P.depth t then none else
    match iU P t with
    | some s=>RG P (LG P d) s at_ fs.toList
    | none=>none
  | _=>none
def zN (P:Program) (Z:List Nat) (o:Oper):Option mI :=
 match o.op with
 | .move x|.assign x=>(zD x).map .iL
 | .pick c a b=>match zD c,zD a,zD b with
  | some c,some a,some b=>some (.pick c a b)
  | _,_,_=>none
 | .alloc t=>(yH P t).map .alloc
 | .box _ x=>match o.dst with
  | some d=>if Z.contains d then (zD x).map .box else (zD x).map .EO
  | none=>(zD x).map .box
 | .build t parts=>match yH P t,ET (LF P t) parts.toList with
  | some z,some ps=>if XV P t then some (.build z ps) else none
  | _,_=>none
 | .buildSlice t len parts=>match P.underlying t with
  | some (.slice e)=>match iU P e,yH P e with
   | some s,some z=>if 0 < s/\len*s<=65536/\z.length=s then
     (ET (fun i=>some (i*s,s)) parts.toList).map fun ps=>.buildSlice s ((List.replicate len z).flatten) ps
    else none
   | _,_=>none
  | _=>none
 | .load t a=>match mF P t,iU P t,zD a with
  | some g,some s,some x=>if g=false/\s≠1 then none else some (.load g s x)
  | _,_,_=>none
 | .store t a x=>match iU P t,zD a,zD x with
  | some s,some a,some x=>if s=0 then none else some (.store s a x)
  | _,_,_=>none
 | .nilCheck x=>(zD x).map .nilCheck
 | .binOp op t x y _=>match zD x,zD y,P.underlying t with
  | some x,some y,some d=>match d with
   | .struct _=>match LG P 8 t 0 with
    | some ls=>match iU P t with
     | some s=>if op=.eql then some (.og false s ls x y) else if op=.neq then some (.og true s ls x y) else none
     | none=>none
    | none=>none
   | .int _|.string=>some (.bin op .num x y)
   | .bool=>some (.bin op .bool x y)
   | .slice _=>some (.bin op .slice x y)
   | .pointer _=>some (.bin op .pointer x y)
   | .func _ _ _=>some (.bin op .func x y)
   | _=>none
  | _,_,_=>none
 | .unOp op _ x=>(zD x).map (.un op)
 | .convert src dst x=>match P.underlying src,P.underlying dst,zD x with
  | some (.int _),some (.int k),some x=>some (.toInt k x)
  | some .string,some .string,some x=>some (.tJ x)
  | some .string,some (.slice e),some x=>match P.underlying e,iU P e with
   | some (.int .u8),some 1=>some (.tK x)
   | _,_=>none
  | some (.slice e),some .string,some x=>match P.underlying e with
   | some (.int .u8)=>some (.toStr x)
   | _=>none
  | _,_,_=>none
 | .makeFunc (.func f) first caps=>if first.size=0 then (yG caps.toList).map (.makeFunc f) else if caps.size=0 then (yG first.toList).map (.iE f) else none
 | .makeSlice t l c=>match P.underlying t with
  | some (.slice e)=>match iU P e,JM P e,yH P e,zD l,zD c with
   | some s,some b,some z,some l,some c=>if 0 < s/\z.length=s then some (.makeSlice s b z l c) else none
   | _,_,_,_,_=>none
  | _=>none
 | .slice t x lo hi none=>match P.underlying t,zD x,wR lo,wR hi with
  | some (.slice e),some x,some lo,some hi=>(iU P e).map fun s=>.slice s x lo hi
  | some .string,some x,some lo,some hi=>some (.substr x lo hi)
  | _,_,_,_=>none
 | .slice t x lo (some hi) (some mx)=>match P.underlying t,zD x,wR lo,zD hi,zD mx with
  | some (.slice e),some x,some lo,some hi,some mx=>(iU P e).map fun s=>.slice3 s x lo hi mx
  | _,_,_,_,_=>none
 | .fieldAddr t x i=>match P.underlying t,zD x with
  | some (.struct fs),some x=>match fs[i]? with
   | some f=>match iU P f.type with
    | some s=>if s=0 then none else some (.fieldAddr f.offset x)
    | none=>none
   | none=>none
  | _,_=>none
 | .field t x i=>match P.underlying t,zD x with
  | some (.struct fs),some x=>match fs[i]? with
   | some f=>match iU P f.type,mF P f.type with
    | some s,some g=>if g=false/\s≠1 then none else some (.field f.offset s g x)
    | _,_=>none
   | none=>none
  | _,_=>none
 | .indexAddr t x i=>match P.underlying t,zD x,zD i with
  | some (.array n e),some x,some i=>(iU P e).map fun s=>.indexAddr s (some n) x i
  | some (.slice e),some x,some i=>(iU P e).map fun s=>.indexAddr s none x i
  | _,_,_=>none
 | .index t x i=>match P.underlying t,zD x,zD i with
  | some (.array n e),some x,some i=>match iU P e,mF P e with
   | some s,some g=>if g=false/\s≠1 then none else some (.index s n g x i)
   | _,_=>none
  | some .string,some x,some i=>some (.byteAt x i)
  | _,_,_=>none
 | .extract x i=>match o.dst with
  | some d=>if Z.contains d then (zD x).map (.idle i) else (zD x).map (.extract i)
  | none=>(zD x).map (.extract i)
 | .call c=>match c.callee with
  | .value f=>match zD f,yG c.args.toList with
   | some f,some xs=>some (.call f xs)
   | _,_=>none
  | .builtin .len=>match c.args.toList,c.argTypes.toList with
   | [x],[t]=>match zD x,P.underlying t with
    | some x,some (.array n _)=>some (.xq n)
    | some x,some .string=>some (.xu x)
    | some x,some (.slice _)=>some (.wP x)
    | some x,some (.map _ _)=>some (.uw x)
    | _,_=>none
   | _,_=>none
  | .builtin .cap=>match c.args.toList,c.argTypes.toList with
   | [x],[t]=>match zD x,P.underlying t with
    | some x,some (.slice _)=>some (.DT x)
    | _,_=>none
   | _,_=>none
  | .builtin .append=>match c.args.toList,c.argTypes.toList with
   | [x,y],[t,u]=>match zD x,zD y,P.underlying t,P.underlying u with
    | some x,some y,some (.slice e),some (.slice e')=>match iU P e,JM P e,iU P e',yH P e with
     | some s,some b,some s',some z=>if 0 < s/\s=s'/\z.length=s/\0 < b then some (.append s b x y) else none
     | _,_,_,_=>none
    | some x,some y,some (.slice e),some (.int _)=>match iU P e,JM P e,yH P e with
     | some s,some b,some z=>if 0 < s/\z.length=s/\0 < b then some (.tL s b z x y) else none
     | _,_,_=>none
    | _,_,_,_=>none
   | _,_=>none
  | .builtin .max=>(yG c.args.toList).map (.bN true)
  | .builtin .min=>(yG c.args.toList).map (.bN false)
  | .builtin .clear=>match c.args.toList,c.argTypes.toList with
   | [x],[t]=>match zD x,P.underlying t with
    | some x,some (.slice e)=>match iU P e,yH P e with
     | some s,some z=>if 0 < s/\z.length=s then some (.clear z x) else none
     | _,_=>none
    | _,_=>none
   | _,_=>none
  | _=>none
 | .makeMap _ none=>some .makeMap
 | .lookup t m k ok=>match Qc P t,XU P t,zD m,zD k with
  | some str,some z,some m,some k=>some (.lookup str z ok m k)
  | _,_,_,_=>none
 | .mapUpdate t m k x|.insert t m k x=>match Qc P t,zD m,zD k,zD x with
  | some str,some m,some k,some x=>some (.rJ str m k x)
  | _,_,_,_=>none
 | _=>none
def F3 (Z:List Nat) (dst:Option Nat) (v:mI):mI :=
 match dst with
 | none=>match v with
  | .store s (.tmp t) x=>if Z.contains (t+4000000) then .bC s (.tmp t) x else
   if Z.contains (t+6000000) then .fK s (.tmp t) x (Z.filterMap fun z=>if 7000000<=z/\z < 8000000 then some (.tmp (z - 7000000)) else none) else .store s (.tmp t) x
  | v=>v
 | some d=>match v with
  | .alloc z=>if Z.contains (d+4000000) then .oh z else .alloc z
  | .iL x=>if Z.contains (d+1000000) then .yu x else .iL x
  | .fieldAddr off x=>if Z.contains (d+5000000) then .lu off x else .fieldAddr off x
  | .load g s x=>if Z.contains (d+5000000) then .iR g s x else if Z.contains (d+8000000) then .uy g s x else .load g s x
  | .slice s x lo hi=>if Z.contains (d+1000000) then .uu s x lo hi else .slice s x lo hi
  | .buildSlice s [] []=>if Z.contains (d+2000000) then .j5 s else .buildSlice s [] []
  | .buildSlice s z ps=>if Z.contains (d+9000000) then .om s z ps else .buildSlice s z ps
  | .append s b x y=>if Z.contains (d+3000000) then .jZ s b x y else .append s b x y
  | .call f xs=>if Z.contains (d+10000000) then .jG f xs (Z.filterMap fun z=>if 7000000<=z/\z < 8000000 then some (.tmp (z - 7000000)) else none) else .call f xs
  | .build z ps=>if Z.contains (d+9000000) then .pX z ps else .build z ps
  | v=>v
def VL (ops:Array Oper) (g:Option (Nat×Bool)):Option (Option (Option Nat×Bool)) :=
 match g with
 | none=>some none
 | some (j,want)=>match ops[j]? with
  | some o=>match o.dst with
   | some d=>some (some (some d,want))
   | none=>none
  | none=>none
def VM (P:Program) (Z:List Nat) (nt:Nat) (ops:Array Oper) (o:Oper):Option af :=
 match VL ops o.guard with
 | some g=>match o.dst with
  | some d=>if d < nt then some ⟨some d,F3 Z (some d) ((zN P Z o).getD .stuck),g⟩ else none
  | none=>some ⟨none,F3 Z none ((zN P Z o).getD .stuck),g⟩
 | none=>none
def BX (P:Program) (Z:List Nat) (nt:Nat) (ops:Array Oper):List Oper->Option (List af)
 | []=>some []
 | o::os=>match VM P Z nt ops o with
  | none=>none
  | some v=>match BX P Z nt ops os with
   | none=>none
   | some vs=>some (v::vs)
def qH:aa->List Nat
 | .tmp t=>[t]
 | .const _=>[]
def mI.reads:mI->List Nat
 | .iL x|.box x|.load _ _ x|.nilCheck x|.un _ x|.toInt _ x|.tJ x|.tK x|.toStr x|.fieldAddr _ x|.field _ _ _ x|.extract _ x|.xu x|.uw x|.wP x|.clear _ x|.DT x|.EO x|.idle _ x|.yu x|.lu _ x|.iR _ _ x|.uy _ _ x=>qH x
 | .pick a b c|.rJ _ a b c=>qH a++qH b++qH c
 | .alloc _|.xq _|.makeMap|.stuck|.j5 _|.oh _=>[]
 | .build _ ps|.pX _ ps|.buildSlice _ _ ps|.om _ _ ps=>ps.flatMap fun p=>qH p.2.2
 | .tL _ _ _ a x|.store _ a x|.bin _ _ a x|.og _ _ _ a x|.makeSlice _ _ _ a x|.indexAddr _ _ a x|.index _ _ _ a x|.byteAt a x|.append _ _ a x|.jZ _ _ a x|.bC _ a x|.lookup _ _ _ a x=>qH a++qH x
 | .makeFunc _ xs|.iE _ xs|.bN _ xs=>xs.flatMap qH
 | .slice _ x lo hi|.uu _ x lo hi|.substr x lo hi=>qH x++(lo.map qH).getD []++(hi.map qH).getD []
 | .fK _ a x ls=>qH a++qH x++ls.flatMap qH
 | .slice3 _ x lo hi mx=>qH x++(lo.map qH).getD []++qH hi++qH mx
 | .call f xs=>qH f++xs.flatMap qH
 | .jG f xs ls=>qH f++xs.flatMap qH++ls.flatMap qH
def mI.plain:mI->mI
 | .fK s a x _=>.store s a x
 | .jG f xs _=>.call f xs
 | v=>v
def af.plain (o:af):af:={ o with op:=o.op.plain }
def af.reads (o:af):List Nat:=o.op.reads++(match o.guard with|some (some d,_)=>[d]|_=>[])
def VN (o:Oper) (j:Nat):Bool:=o.after.any fun e=>e.on == j&&Region.binds .any e
def zqL (ms:List Nat) (o:Oper):Nat:=o.after.toList.foldl (fun m e=>if Region.binds .any e then m ||| (2 ^ e.on) ||| ms.getD e.on 0 else m) 0
def masks:List Oper->List Nat->List Nat
 | [],ms=>ms
 | o::os,ms=>masks os (ms++[zqL ms o])
def vP (v:af):Bool:=match v.op with
 | .idle _ _|.yu _|.uu _ _ _ _|.lu _ _|.iR _ _ _|.uy _ _ _|.om _ _ _|.pX _ _=>true
 | _=>false
def LH (v:af):Option aa:=match v.op with
 | .iR _ _ x=>some x
 | _=>none
def XW:aa->aa->Bool
 | .tmp a,.tmp b=>a == b
 | _,_=>false
def VO (b:af) (x:aa):Bool:=match b.op with
 | .fK _ _ _ ls|.jG _ _ ls=>ls.any fun l=>XW l x
 | .fieldAddr _ _=>true
 | _=>false
def RH (v:af):Bool:=match v.op with
 | .rJ _ _ _ _=>true
 | _=>false
def D8 (vs:List af) (i:Nat):Bool:=match vs[i]? with
 | some v=>vP v
 | none=>false
def XX (ms:List Nat) (vs:List af) (i:Nat):Bool:=(List.range i).all fun j=>(ms.getD i 0).testBit j||D8 vs j
def zrb (ms:List Nat) (vs:List af) (pre i:Nat) (v:af):Bool :=
 match v.dst,v.guard with
 | some d,none=>(List.range vs.length).all fun j=>j < pre||(match vs[j]? with
  | some b=>b.dst != some d&&v.op.reads.all (fun t=>b.dst != some t)&&(!b.plain.reads.contains d||(ms.getD j 0).testBit i)
  | none=>true)
 | _,_=>false
def Qd (v:af):Bool:=match v with
 | ⟨none,.bC _ (.tmp _) _,none⟩=>true
 | _=>false
def inits (vs:List af) (pre:Nat):Nat:=((vs.drop pre).takeWhile Qd).length
def zq3 (vs:List af) (ops:Array Oper) (pre i:Nat):Bool:=match vs[i]? with
 | some v=>(List.range pre).all fun j=>match vs[j]? with
   | some y=>(match y.dst with
    | some d=>!v.reads.contains d||VN (ops.getD i default) j
    | none=>true)
   | none=>true
 | none=>false
def zoM (v:af):Bool:=match v.op with
 | .fK _ _ _ _=>true
 | _=>false
def zo9 (v:af):Bool:=match v.op with
 | .jG _ _ _=>true
 | _=>false
def zm0 (vs:List af):Nat:=vs.length - (vs.reverse.takeWhile fun v=>!vP v).length
def NP (ops:Array Oper) (vs:List af):Nat :=
 if vs.any Qd then vs.findIdx Qd else if vs.any zoM then vs.findIdx zoM else (fun m=>if vs.any zo9&&decide (m < zm0 vs) then vs.findIdx zo9 else m) (ops.size - ((List.range ops.size).reverse.takeWhile (XX (masks ops.toList []) vs)).length)
def Jb (ops:Array Oper) (vs:List af) (pre:Nat):Bool :=
 -- RI lead back
 ((List.range ops.size).all fun i=>(ops.getD i default).after.all fun e=>!Region.binds .any e||e.on < i) &&
 -- from 'pre' on everything waits for everything before it
 ((List.range ops.size).all fun i=>i < pre+inits vs pre||XX (masks ops.toList []) vs i) &&
 ((List.range ops.size).all fun i=>i < pre||pre+inits vs pre<=i||zq3 vs ops pre i) &&
 ((List.range vs.length).all fun i=>match vs[i]? with
  | some v=>(match LH v with
   | some x=>(List.range vs.length).all fun j=>j < pre||(match vs[j]? with
    | some b=>RH b||VO b x||((masks ops.toList []).getD j 0).testBit i
    | none=>true)
   | none=>true)
  | none=>true) &&
 decide (pre<=ops.size) &&
 ((List.range vs.length).all fun i=>match vs[i]? with
  | some v=>!vP v||(decide (i < pre)&&zrb (masks ops.toList []) vs pre i v)
  | none=>true) &&
 -- among the first ones each slot is written once,and what is read was written before,by one that must come first,or not at all
 ((List.range pre).all fun i=>(List.range pre).all fun j =>
  match vs[i]?,vs[j]? with
  | some a,some b =>
   (match b.dst with
    | some d=>(i == j||a.dst != some d)&&(!a.reads.contains d||(j < i&&VN (ops.getD i default) j))
    | none=>true)
  | _,_=>false)
def XY (pos:Nat->Nat) (e:Edge):Edge:={ e with on:=pos e.on }
def GK (pos:Nat->Nat) (o:Oper):Oper:={ o with after:=o.after.map (XY pos),guard:=o.guard.map fun g=>(pos g.1,g.2) }
def yJ (pos:List Nat) (i:Nat):Nat:=if i < pos.length then pos.getD i 0 else i
def reorder (ops:Array Oper) (order pos:List Nat):Array Oper:=(order.map fun i=>GK (yJ pos) (ops.getD i default)).toArray
def XZ (n:Nat) (order pos:List Nat):Bool :=
 order.length == n&&pos.length == n&&(List.range n).all fun i=>pos.getD i 0 < n&&order.getD i 0 < n&&order.getD (pos.getD i 0) 0 == i&&pos.getD (order.getD i 0) 0 == i
def zvV (Z:List Nat) (ops:Array Oper) (vs:List af) (pre:Nat):Option (List Nat×List Nat×List Nat) :=
 let n:=vs.length
 let at_ (i:Nat):af:=(vs[i]?).getD ⟨none,.stuck,none⟩
 -- literals without elements,to which a row is appended early
 let GL:List (Nat×Nat):=(List.range pre).filterMap fun i=>match at_ i with
  | ⟨some d,.append _ _ (.tmp t) _,_⟩ =>
   if (List.range i).any (fun j=>match at_ j with|⟨some t',.buildSlice _ [] [],none⟩=>t' == t|_=>false)&&(List.range n).all (fun j=>j == i || !(at_ j).reads.contains t) then some (t,d) else none
  | _=>none
 let isVoid (d:Nat):Bool:=GL.any fun v=>v.2 == d
 -- appending in a chain
 let bad:Option Nat:=(List.range pre).find? fun i=>match at_ i with
  | ⟨some d,.append _ _ (.tmp t) _,_⟩=>!isVoid d&&(List.range i).any (fun j=>match at_ j with|⟨some t',.append _ _ _ _,_⟩=>t' == t|_=>false)
  | _=>false
 let Zv:=GL.flatMap fun v=>[v.1+2000000,v.2+3000000]
 -- boxes laid early and written to early,once
 let ou:List (Nat×Nat):=(List.range pre).filterMap fun i=>match at_ i with
  | ⟨none,.store _ (.tmp t) _,none⟩ =>
   if (List.range i).any (fun j=>match at_ j with|⟨some t',.alloc _,none⟩=>t' == t|_=>false)&&(List.range n).all (fun j=>j == i || !(at_ j).reads.contains t) then some (i,t) else none
  | _=>none
 let D9 (i:Nat):Bool:=ou.any fun f=>f.1 == i
 if !ou.isEmpty then
  -- the last operation too,if it is such a write that waits for all
  let more:List (Nat×Nat):=(List.range n).filterMap fun i=>if i < pre then none else match at_ i with
   | ⟨none,.store _ (.tmp t) _,none⟩ =>
    if (List.range i).any (fun j=>match at_ j with|⟨some t',.alloc _,none⟩=>t' == t|_=>false)&&(List.range n).all (fun j=>j == i || !(at_ j).reads.contains t)&&decide (i == pre) then some (i,t) else none
   | _=>none
  let order:=(List.range pre).filter (fun i=>!D9 i)++(List.range pre).filter D9++(List.range n).filter (fun i=>pre<=i)
  let pos:=(List.range n).map fun j=>order.findIdx (· == j)
  some (order,pos,(ou++more).map fun f=>f.2+4000000)
 else
 -- a call in the caller's memory,told by a mark
 let bad:Option Nat:=match bad with
  | some i=>some i
  | none=>(List.range n).find? fun i=>match at_ i with
   | ⟨some _,.jG _ _ _,none⟩=>true
   | _=>false
 match bad with
 | none=>if !GL.isEmpty then some (List.range n,List.range n,Zv) else
  match (List.range pre).find? (fun i=>RH (at_ i)||(match at_ i with|⟨none,.store _ (.tmp _) _,none⟩=>true|_=>false)) with
  | none=>none
  | some p =>
   -- an early write,and reads of cells that need not wait for it
   let ms:=masks ops.toList []
   let own:List Nat:=match at_ p with
    | ⟨none,.store _ (.tmp t) _,none⟩=>[t+6000000]
    | _=>[]
   some (List.range n,List.range n,own++(List.range p).flatMap fun j=>if (ms.getD p 0).testBit j then [] else match at_ j with
    | ⟨some d,.iL _,none⟩=>[d+1000000]
    | ⟨some d,.fieldAddr _ _,none⟩=>[d+5000000]
    | ⟨some d,.load _ _ (.tmp a),none⟩=>[d+5000000,a+7000000]
    | ⟨some d,.buildSlice _ _ _,none⟩|⟨some d,.build _ _,none⟩=>[d+9000000]
    | _=>[])
 | some i =>
  let ms:=masks ops.toList []
  let dep (j:Nat):Bool:=j == i||(ms.getD j 0).testBit i
  let order:=(List.range n).filter (fun j=>!dep j)++(List.range n).filter dep
  let pos:=(List.range n).map fun j=>order.findIdx (· == j)
  let RL:=(List.range n).flatMap fun j=>if dep j||(ms.getD i 0).testBit j||vP (at_ j) then [] else match (at_ j).dst with
   | some d=>match (at_ j).op with
    | .load _ _ (.tmp a)=>if Z.contains a then [d+5000000,a+7000000] else [d+8000000]
    | _=>[d+1000000,d+5000000,d+8000000,d+9000000].filter fun z=>match (at_ j).op with
    | .buildSlice _ _ _|.build _ _=>z == d+9000000
    | .load _ _ _=>z == d+8000000
    | .fieldAddr _ _=>z == d+5000000
    | _=>z == d+1000000
   | none=>[]
  some (order,pos,RL++Zv)
def Qe (P:Program) (Z:List Nat) (nt:Nat) (ops:Array Oper) (vs:List af):Option aV :=
 match zvV Z ops vs (NP ops vs) with
 | none=>none
 | some (order,pos,Z') =>
  let ops':=reorder ops order pos
  match BX P (Z'++Z) nt ops' ops'.toList with
  | none=>none
  | some vs'=>if XZ ops.size order pos&&Jb ops' vs' (NP ops' vs') then some (.region (some (NP ops' vs')) vs') else none
def NQ (s:Nat) (o:Oper):Oper:={ o with after:=(o.after.filter fun e=>decide (s<=e.on)).map fun e=>{ e with on:=e.on - s },guard:=o.guard.map fun g=>(g.1 - s,g.2) }
def BZ (ops:Array Oper) (s:Nat):Array Oper:=(ops.toList.take s).toArray
def xy (ops:Array Oper) (s:Nat):Array Oper:=((ops.toList.drop s).map (NQ s)).toArray
def X3 (ops:Array Oper) (s:Nat):Bool:=decide (s<=ops.size)&&(List.range ops.size).all fun i =>
 ((ops.getD i default).after.all fun e=>!Region.binds .any e||decide (e.on < i)) &&
 (if i < s then (match (ops.getD i default).guard with
  | some g=>decide (g.1 < s)
  | none=>true)
 else (match (ops.getD i default).guard with
  | some g=>decide (s<=g.1)
  | none=>true)&&(List.range s).all fun j=>((masks ops.toList []).getD i 0).testBit j)
def zuD (Z:List Nat) (id:Nat):List Nat:=(Z.filter fun z=>z / 1000 == 100000+id).map (· % 1000)
def Qf (P:Program) (Z:List Nat) (nt:Nat) (ops:Array Oper):Option aV:=match BX P Z nt ops ops.toList with
 | none=>none
 | some vs=>match Qe P Z nt ops vs with
  | some c=>some c
  | none=>if Jb ops vs (NP ops vs) then some (.region (some (NP ops vs)) vs) else none
def Qg (P:Program) (Z:List Nat) (nt:Nat):List Nat->Array Oper->Option aV
 | [],ops=>Qf P Z nt ops
 | s::ss,ops=>if X3 ops s then match Qf P Z nt (BZ ops s),Qg P Z nt ss (xy ops s) with
  | some a,some b=>some (.seq a b)
  | _,_=>none else none
def zR (P:Program) (Z:List Nat) (nt:Nat):Code->Option aV
 | .skip|.label _=>some .skip
 | .region id ops draw=>match zuD Z id with
  | s::ss=>if draw then Qg P Z nt (s::ss) ops else none
  | []=>match BX P Z nt ops ops.toList with
   | none=>none
   | some vs=>if draw then match Qe P Z nt ops vs with
    | some c=>some c
    | none=>(if Jb ops vs (NP ops vs) then some (.region (some (NP ops vs)) vs) else none) else some (.region none vs)
 | .seq a b=>match zR P Z nt a,zR P Z nt b with
  | some x,some y=>some (.seq x y)
  | _,_=>none
 | .cond c a b=>match zD c,zR P Z nt a,zR P Z nt b with
  | some z,some x,some y=>some (.cond z x y)
  | _,_,_=>none
 | .block id c=>(zR P Z nt c).map (.block id)
 | .loop c=>(zR P Z nt c).map .loop
 | .rangeFunc f params assign body=>match zD f,zR P Z nt assign,zR P Z nt body with
  | some z,some x,some y=>if params.toList.all (fun t=>decide (t < nt))&&x.fI&&y.fI then some (.rangeFunc z params.toList x y) else none
  | _,_,_=>none
 | .exit id=>some (.exit id)
 | .ret=>some .ret
 | .scope c=>zR P Z nt c
 | .goto _|.refuse _=>none
def VP (P:Program):ResultVar->Option mK
 | .tmp t=>some (.tmp t)
 | .cell t ty=>match mF P ty,iU P ty with
  | some g,some s=>if g=false/\s≠1 then none else some (.cell t s g)
  | _,_=>none
def Qh (P:Program):List ResultVar->Option (List mK)
 | []=>some []
 | r::rs=>match VP P r with
  | none=>none
  | some v=>match Qh P rs with
   | none=>none
   | some vs=>some (v::vs)
def zi (P:Program) (Z:List Nat) (fn:Func):Option ai :=
 match fn.body,Qh P fn.results.toList with
 | some c, some rs => if fn.name == "runtime.NumGoroutine" || !decide (fn.params.size + fn.nfree <= fn.ntmps) then none else
  (zR P Z fn.ntmps c).map fun v=>⟨fn.params.size+fn.nfree,fn.ntmps,rs,v⟩
 | _,_=>none
end Go.Proofs.YtmmhnfghklppiaaGreat.Vm
