/- From the model's operations to the machine's: one at a time. It only defines. -/
import Derived.Test.YtmmhnfghklppiaaGreatVk1
set_option linter.unusedVariables false
set_option linter.unusedSimpArgs false
namespace Go.Proofs.YtmmhnfghklppiaaGreat.Vm
open Go
def Pg:Value->Option PV
 | .bool b=>some (.bool b)
 | .int k n=>some (.int k n)
 | .string s=>some (.str s)
 | .pointer none=>some .jU
 | .slice none 0 0=>some .nils
 | .nilFunc=>some .jV
 | _=>none
def CF:List Value->Option (List PV)
 | []=>some []
 | v::vs=>match Pg v with
  | none=>none
  | some p=>match CF vs with
   | none=>none
   | some ps=>some (p::ps)
def Ph:Value->Option PV
 | .agg cs=>(CF cs.toList).map .agg
 | v=>Pg v
def zB:Operand->Option aa
 | .tmp t=>some (.tmp t)
 | .const (.func (.func f) first caps)=>if first.size=0/\caps.size=0 then some (.const (.func f [])) else none
 | .const v=>(Ph v).map .const
 | .func f=>some (.const (.func f []))
 | .global _=>none
def vW:List Operand->Option (List aa)
 | []=>some []
 | x::xs=>match zB x with
  | none=>none
  | some y=>match vW xs with
   | none=>none
   | some ys=>some (y::ys)
def ui:Option Operand->Option (Option aa)
 | none=>some none
 | some x=>(zB x).map some
def zU (P:Program) (t:TypeId):Option Nat:=(P.info? t).map (·.size)
def GZ (P:Program) (t:TypeId):Option Nat:=(P.info? t).map (·.bytes)
def vX (P:Program) (t:TypeId):Option (List PV) :=
 match P.info? t with
 | some i=>match i.zero with
  | some z=>if z.cells.size=i.size then CF z.cells.toList else none
  | none=>none
 | none=>none
def jW (P:Program) (t:TypeId):Option Bool :=
 match P.underlying t with
 | some (.struct _)|some (.array _ _)=>some true
 | some _=>some false
 | none=>none
def Tv (P:Program) (t:TypeId):Option PV :=
 match P.info? t with
 | some i=>match i.zero with
  | some z=>Ph z
  | none=>none
 | none=>none
def Es (P:Program) (t:TypeId):Option Bool :=
 match P.underlying t with
 | some (.int _)=>some false
 | some .string=>some true
 | _=>none
def NB (P:Program) (t:TypeId):Option Bool :=
 match P.underlying t with
 | some (.map k _)=>Es P k
 | _=>none
def Vv (P:Program) (t:TypeId):Option PV :=
 match P.underlying t with
 | some (.map _ e)=>Tv P e
 | _=>none
def Jq (P:Program) (t:TypeId) (i:Nat):Option (Nat×Nat) :=
 match P.underlying t with
 | some (.struct fs)=>match fs[i]? with
  | some f=>(zU P f.type).map fun s=>(f.offset,s)
  | none=>none
 | some (.array _ e)=>(zU P e).map fun s=>(i*s,s)
 | _=>none
def Vw (P:Program) (t:TypeId):Bool :=
 match P.underlying t with
 | some (.struct fs)=>fs.toList.all fun f=>(zU P f.type).isSome
 | some (.array _ e)=>(zU P e).isSome
 | _=>false
def CG (place:Nat->Option (Nat×Nat)):List (Nat×Operand)->Option (List (Nat×Nat×aa))
 | []=>some []
 | (i,x)::rest=>match place i with
  | none=>none
  | some (o,s)=>match zB x with
   | none=>none
   | some y=>match CG place rest with
    | none=>none
    | some ys=>if s=0 then none else some ((o,s,y)::ys)
def Pj (P:Program) (lv:TypeId->Nat->Option (List Nat)) (s at_:Nat):List Field->Option (List Nat)
 | []=>some []
 | f :: fs => if f.name = "_" then none else
  match zU P f.type,jW P f.type,lv f.type (at_+f.offset),Pj P lv s at_ fs with
  | some sf,some g,some l,some ls=>if f.offset+sf<=s/\(g=false->sf=1) then some (l++ls) else none
  | _,_,_,_=>none
def Jr (P:Program):Nat->TypeId->Nat->Option (List Nat)
 | 0,_,_=>none
 | d+1,t,at_=>match P.underlying t with
  | some (.int _)=>if at_ < 500000 then some [at_] else none
  | some .bool=>some [at_+500000]
  | some (.struct fs)=>if P.stoodInHeld t||P.eqGuardType P.depth t then none else
    match zU P t with
    | some s=>Pj P (Jr P d) s at_ fs.toList
    | none=>none
  | _=>none
def zG (P:Program) (Z:List Nat) (o:Oper):Option jZ :=
 match o.op with
 | .move x|.assign x=>(zB x).map .iw
 | .pick c a b=>match zB c,zB a,zB b with
  | some c,some a,some b=>some (.pick c a b)
  | _,_,_=>none
 | .alloc t=>(vX P t).map .alloc
 | .box _ x=>match o.dst with
  | some d=>if Z.contains d then (zB x).map .box else (zB x).map .CB
  | none=>(zB x).map .box
 | .build t parts=>match vX P t,CG (Jq P t) parts.toList with
  | some z,some ps=>if Vw P t then some (.build z ps) else none
  | _,_=>none
 | .buildSlice t len parts=>match P.underlying t with
  | some (.slice e)=>match zU P e,vX P e with
   | some s,some z=>if 0 < s/\len*s<=65536/\z.length=s then
     (CG (fun i=>some (i*s,s)) parts.toList).map fun ps=>.buildSlice s ((List.replicate len z).flatten) ps
    else none
   | _,_=>none
  | _=>none
 | .load t a=>match jW P t,zU P t,zB a with
  | some g,some s,some x=>if g=false/\s≠1 then none else some (.load g s x)
  | _,_,_=>none
 | .store t a x=>match zU P t,zB a,zB x with
  | some s,some a,some x=>if s=0 then none else some (.store s a x)
  | _,_,_=>none
 | .nilCheck x=>(zB x).map .nilCheck
 | .binOp op t x y _=>match zB x,zB y,P.underlying t with
  | some x,some y,some d=>match d with
   | .struct _=>match Jr P 8 t 0 with
    | some ls=>match zU P t with
     | some s=>if op=.eql then some (.mH false s ls x y) else if op=.neq then some (.mH true s ls x y) else none
     | none=>none
    | none=>none
   | .int _|.string=>some (.bin op .num x y)
   | .bool=>some (.bin op .bool x y)
   | .slice _=>some (.bin op .slice x y)
   | .pointer _=>some (.bin op .pointer x y)
   | .func _ _ _=>some (.bin op .func x y)
   | _=>none
  | _,_,_=>none
 | .unOp op _ x=>(zB x).map (.un op)
 | .convert src dst x=>match P.underlying src,P.underlying dst,zB x with
  | some (.int _),some (.int k),some x=>some (.toInt k x)
  | some .string,some .string,some x=>some (.qQ x)
  | some .string,some (.slice e),some x=>match P.underlying e,zU P e with
   | some (.int .u8),some 1=>some (.qU x)
   | _,_=>none
  | some (.slice e),some .string,some x=>match P.underlying e with
   | some (.int .u8)=>some (.toStr x)
   | _=>none
  | _,_,_=>none
 | .makeFunc (.func f) first caps=>if first.size=0 then (vW caps.toList).map (.makeFunc f) else if caps.size=0 then (vW first.toList).map (.fJ f) else none
 | .makeSlice t l c=>match P.underlying t with
  | some (.slice e)=>match zU P e,GZ P e,vX P e,zB l,zB c with
   | some s,some b,some z,some l,some c=>if 0 < s/\z.length=s then some (.makeSlice s b z l c) else none
   | _,_,_,_,_=>none
  | _=>none
 | .slice t x lo hi none=>match P.underlying t,zB x,ui lo,ui hi with
  | some (.slice e),some x,some lo,some hi=>(zU P e).map fun s=>.slice s x lo hi
  | some .string,some x,some lo,some hi=>some (.substr x lo hi)
  | _,_,_,_=>none
 | .slice t x lo (some hi) (some mx)=>match P.underlying t,zB x,ui lo,zB hi,zB mx with
  | some (.slice e),some x,some lo,some hi,some mx=>(zU P e).map fun s=>.slice3 s x lo hi mx
  | _,_,_,_,_=>none
 | .fieldAddr t x i=>match P.underlying t,zB x with
  | some (.struct fs),some x=>match fs[i]? with
   | some f=>match zU P f.type with
    | some s=>if s=0 then none else some (.fieldAddr f.offset x)
    | none=>none
   | none=>none
  | _,_=>none
 | .field t x i=>match P.underlying t,zB x with
  | some (.struct fs),some x=>match fs[i]? with
   | some f=>match zU P f.type,jW P f.type with
    | some s,some g=>if g=false/\s≠1 then none else some (.field f.offset s g x)
    | _,_=>none
   | none=>none
  | _,_=>none
 | .indexAddr t x i=>match P.underlying t,zB x,zB i with
  | some (.array n e),some x,some i=>(zU P e).map fun s=>.indexAddr s (some n) x i
  | some (.slice e),some x,some i=>(zU P e).map fun s=>.indexAddr s none x i
  | _,_,_=>none
 | .index t x i=>match P.underlying t,zB x,zB i with
  | some (.array n e),some x,some i=>match zU P e,jW P e with
   | some s,some g=>if g=false/\s≠1 then none else some (.index s n g x i)
   | _,_=>none
  | some .string,some x,some i=>some (.byteAt x i)
  | _,_,_=>none
 | .extract x i=>match o.dst with
  | some d=>if Z.contains d then (zB x).map (.idle i) else (zB x).map (.extract i)
  | none=>(zB x).map (.extract i)
 | .call c=>match c.callee with
  | .value f=>match zB f,vW c.args.toList with
   | some f,some xs=>some (.call f xs)
   | _,_=>none
  | .builtin .len=>match c.args.toList,c.argTypes.toList with
   | [x],[t]=>match zB x,P.underlying t with
    | some x,some (.array n _)=>some (.uO n)
    | some x,some .string=>some (.uP x)
    | some x,some (.slice _)=>some (.ug x)
    | some x,some (.map _ _)=>some (.rC x)
    | _,_=>none
   | _,_=>none
  | .builtin .cap=>match c.args.toList,c.argTypes.toList with
   | [x],[t]=>match zB x,P.underlying t with
    | some x,some (.slice _)=>some (.Bh x)
    | _,_=>none
   | _,_=>none
  | .builtin .append=>match c.args.toList,c.argTypes.toList with
   | [x,y],[t,u]=>match zB x,zB y,P.underlying t,P.underlying u with
    | some x,some y,some (.slice e),some (.slice e')=>match zU P e,GZ P e,zU P e',vX P e with
     | some s,some b,some s',some z=>if 0 < s/\s=s'/\z.length=s/\0 < b then some (.append s b x y) else none
     | _,_,_,_=>none
    | some x,some y,some (.slice e),some (.int _)=>match zU P e,GZ P e,vX P e with
     | some s,some b,some z=>if 0 < s/\z.length=s/\0 < b then some (.qV s b z x y) else none
     | _,_,_=>none
    | _,_,_,_=>none
   | _,_=>none
  | .builtin .max=>(vW c.args.toList).map (.bE true)
  | .builtin .min=>(vW c.args.toList).map (.bE false)
  | .builtin .clear=>match c.args.toList,c.argTypes.toList with
   | [x],[t]=>match zB x,P.underlying t with
    | some x,some (.slice e)=>match zU P e,vX P e with
     | some s,some z=>if 0 < s/\z.length=s then some (.clear z x) else none
     | _,_=>none
    | _,_=>none
   | _,_=>none
  | _=>none
 | .makeMap _ none=>some .makeMap
 | .lookup t m k ok=>match NB P t,Vv P t,zB m,zB k with
  | some str,some z,some m,some k=>some (.lookup str z ok m k)
  | _,_,_,_=>none
 | .mapUpdate t m k x|.insert t m k x=>match NB P t,zB m,zB k,zB x with
  | some str,some m,some k,some x=>some (.pE str m k x)
  | _,_,_,_=>none
 | _=>none
def Dz (Z:List Nat) (dst:Option Nat) (v:jZ):jZ :=
 match dst with
 | none=>match v with
  | .store s (.tmp t) x=>if Z.contains (t+4000000) then .bq s (.tmp t) x else
   if Z.contains (t+6000000) then .bP s (.tmp t) x (Z.filterMap fun z=>if 7000000<=z/\z < 8000000 then some (.tmp (z - 7000000)) else none) else .store s (.tmp t) x
  | v=>v
 | some d=>match v with
  | .alloc z=>if Z.contains (d+4000000) then .pq z else .alloc z
  | .iw x=>if Z.contains (d+1000000) then .vS x else .iw x
  | .fieldAddr off x=>if Z.contains (d+5000000) then .jv off x else .fieldAddr off x
  | .load g s x=>if Z.contains (d+5000000) then .fV g s x else if Z.contains (d+8000000) then .rD g s x else .load g s x
  | .slice s x lo hi=>if Z.contains (d+1000000) then .rA s x lo hi else .slice s x lo hi
  | .buildSlice s [] []=>if Z.contains (d+2000000) then .j5 s else .buildSlice s [] []
  | .buildSlice s z ps=>if Z.contains (d+9000000) then .mI s z ps else .buildSlice s z ps
  | .append s b x y=>if Z.contains (d+3000000) then .jN s b x y else .append s b x y
  | .call f xs=>if Z.contains (d+10000000) then .iR f xs (Z.filterMap fun z=>if 7000000<=z/\z < 8000000 then some (.tmp (z - 7000000)) else none) else .call f xs
  | .build z ps=>if Z.contains (d+9000000) then .nL z ps else .build z ps
  | v=>v
def Tz (ops:Array Oper) (g:Option (Nat×Bool)):Option (Option (Option Nat×Bool)) :=
 match g with
 | none=>some none
 | some (j,want)=>match ops[j]? with
  | some o=>match o.dst with
   | some d=>some (some (some d,want))
   | none=>none
  | none=>none
def TA (P:Program) (Z:List Nat) (nt:Nat) (ops:Array Oper) (o:Oper):Option ae :=
 match Tz ops o.guard with
 | some g=>match o.dst with
  | some d=>if d < nt then some ⟨some d,Dz Z (some d) ((zG P Z o).getD .stuck),g⟩ else none
  | none=>some ⟨none,Dz Z none ((zG P Z o).getD .stuck),g⟩
 | none=>none
def yH (P:Program) (Z:List Nat) (nt:Nat) (ops:Array Oper):List Oper->Option (List ae)
 | []=>some []
 | o::os=>match TA P Z nt ops o with
  | none=>none
  | some v=>match yH P Z nt ops os with
   | none=>none
   | some vs=>some (v::vs)
def oC:aa->List Nat
 | .tmp t=>[t]
 | .const _=>[]
def jZ.reads:jZ->List Nat
 | .iw x|.box x|.load _ _ x|.nilCheck x|.un _ x|.toInt _ x|.qQ x|.qU x|.toStr x|.fieldAddr _ x|.field _ _ _ x|.extract _ x|.uP x|.rC x|.ug x|.clear _ x|.Bh x|.CB x|.idle _ x|.vS x|.jv _ x|.fV _ _ x|.rD _ _ x=>oC x
 | .pick a b c|.pE _ a b c=>oC a++oC b++oC c
 | .alloc _|.uO _|.makeMap|.stuck|.j5 _|.pq _=>[]
 | .build _ ps|.nL _ ps|.buildSlice _ _ ps|.mI _ _ ps=>ps.flatMap fun p=>oC p.2.2
 | .qV _ _ _ a x|.store _ a x|.bin _ _ a x|.mH _ _ _ a x|.makeSlice _ _ _ a x|.indexAddr _ _ a x|.index _ _ _ a x|.byteAt a x|.append _ _ a x|.jN _ _ a x|.bq _ a x|.lookup _ _ _ a x=>oC a++oC x
 | .makeFunc _ xs|.fJ _ xs|.bE _ xs=>xs.flatMap oC
 | .slice _ x lo hi|.rA _ x lo hi|.substr x lo hi=>oC x++(lo.map oC).getD []++(hi.map oC).getD []
 | .bP _ a x ls=>oC a++oC x++ls.flatMap oC
 | .slice3 _ x lo hi mx=>oC x++(lo.map oC).getD []++oC hi++oC mx
 | .call f xs=>oC f++xs.flatMap oC
 | .iR f xs ls=>oC f++xs.flatMap oC++ls.flatMap oC
def jZ.plain:jZ->jZ
 | .bP s a x _=>.store s a x
 | .iR f xs _=>.call f xs
 | v=>v
def ae.plain (o:ae):ae:={ o with op:=o.op.plain }
def ae.reads (o:ae):List Nat:=o.op.reads++(match o.guard with|some (some d,_)=>[d]|_=>[])
def TB (o:Oper) (j:Nat):Bool:=o.after.any fun e=>e.on == j&&Region.binds .any e
def zq8 (ms:List Nat) (o:Oper):Nat:=o.after.toList.foldl (fun m e=>if Region.binds .any e then m ||| (2 ^ e.on) ||| ms.getD e.on 0 else m) 0
def masks:List Oper->List Nat->List Nat
 | [],ms=>ms
 | o::os,ms=>masks os (ms++[zq8 ms o])
def sU (v:ae):Bool:=match v.op with
 | .idle _ _|.vS _|.rA _ _ _ _|.jv _ _|.fV _ _ _|.rD _ _ _|.mI _ _ _|.nL _ _=>true
 | _=>false
def Js (v:ae):Option aa:=match v.op with
 | .fV _ _ x=>some x
 | _=>none
def Vx:aa->aa->Bool
 | .tmp a,.tmp b=>a == b
 | _,_=>false
def TC (b:ae) (x:aa):Bool:=match b.op with
 | .bP _ _ _ ls|.iR _ _ ls=>ls.any fun l=>Vx l x
 | .fieldAddr _ _=>true
 | _=>false
def Pm (v:ae):Bool:=match v.op with
 | .pE _ _ _ _=>true
 | _=>false
def Bw (vs:List ae) (i:Nat):Bool:=match vs[i]? with
 | some v=>sU v
 | none=>false
def Vy (ms:List Nat) (vs:List ae) (i:Nat):Bool:=(List.range i).all fun j=>(ms.getD i 0).testBit j||Bw vs j
def zqp (ms:List Nat) (vs:List ae) (pre i:Nat) (v:ae):Bool :=
 match v.dst,v.guard with
 | some d,none=>(List.range vs.length).all fun j=>j < pre||(match vs[j]? with
  | some b=>b.dst != some d&&v.op.reads.all (fun t=>b.dst != some t)&&(!b.plain.reads.contains d||(ms.getD j 0).testBit i)
  | none=>true)
 | _,_=>false
def NC (v:ae):Bool:=match v with
 | ⟨none,.bq _ (.tmp _) _,none⟩=>true
 | _=>false
def inits (vs:List ae) (pre:Nat):Nat:=((vs.drop pre).takeWhile NC).length
def zru (vs:List ae) (ops:Array Oper) (pre i:Nat):Bool:=match vs[i]? with
 | some v=>(List.range pre).all fun j=>match vs[j]? with
   | some y=>(match y.dst with
    | some d=>!v.reads.contains d||TB (ops.getD i default) j
    | none=>true)
   | none=>true
 | none=>false
def zob (v:ae):Bool:=match v.op with
 | .bP _ _ _ _=>true
 | _=>false
def zof (v:ae):Bool:=match v.op with
 | .iR _ _ _=>true
 | _=>false
def zmZ (vs:List ae):Nat:=vs.length - (vs.reverse.takeWhile fun v=>!sU v).length
def KU (ops:Array Oper) (vs:List ae):Nat :=
 if vs.any NC then vs.findIdx NC else if vs.any zob then vs.findIdx zob else (fun m=>if vs.any zof&&decide (m < zmZ vs) then vs.findIdx zof else m) (ops.size - ((List.range ops.size).reverse.takeWhile (Vy (masks ops.toList []) vs)).length)
def F5 (ops:Array Oper) (vs:List ae) (pre:Nat):Bool :=
 -- Pn lead back
 ((List.range ops.size).all fun i=>(ops.getD i default).after.all fun e=>!Region.binds .any e||e.on < i) &&
 -- from 'pre' on everything waits for everything before it
 ((List.range ops.size).all fun i=>i < pre+inits vs pre||Vy (masks ops.toList []) vs i) &&
 ((List.range ops.size).all fun i=>i < pre||pre+inits vs pre<=i||zru vs ops pre i) &&
 ((List.range vs.length).all fun i=>match vs[i]? with
  | some v=>(match Js v with
   | some x=>(List.range vs.length).all fun j=>j < pre||(match vs[j]? with
    | some b=>Pm b||TC b x||((masks ops.toList []).getD j 0).testBit i
    | none=>true)
   | none=>true)
  | none=>true) &&
 decide (pre<=ops.size) &&
 ((List.range vs.length).all fun i=>match vs[i]? with
  | some v=>!sU v||(decide (i < pre)&&zqp (masks ops.toList []) vs pre i v)
  | none=>true) &&
 -- among the first ones each slot is written once,and what is read was written before,by one that must come first,or not at all
 ((List.range pre).all fun i=>(List.range pre).all fun j =>
  match vs[i]?,vs[j]? with
  | some a,some b =>
   (match b.dst with
    | some d=>(i == j||a.dst != some d)&&(!a.reads.contains d||(j < i&&TB (ops.getD i default) j))
    | none=>true)
  | _,_=>false)
def Vz (pos:Nat->Nat) (e:Edge):Edge:={ e with on:=pos e.on }
def Et (pos:Nat->Nat) (o:Oper):Oper:={ o with after:=o.after.map (Vz pos),guard:=o.guard.map fun g=>(pos g.1,g.2) }
def vY (pos:List Nat) (i:Nat):Nat:=if i < pos.length then pos.getD i 0 else i
def reorder (ops:Array Oper) (order pos:List Nat):Array Oper:=(order.map fun i=>Et (vY pos) (ops.getD i default)).toArray
def VA (n:Nat) (order pos:List Nat):Bool :=
 order.length == n&&pos.length == n&&(List.range n).all fun i=>pos.getD i 0 < n&&order.getD i 0 < n&&order.getD (pos.getD i 0) 0 == i&&pos.getD (order.getD i 0) 0 == i
def zuV (Z:List Nat) (ops:Array Oper) (vs:List ae) (pre:Nat):Option (List Nat×List Nat×List Nat) :=
 let n:=vs.length
 let at_ (i:Nat):ae:=(vs[i]?).getD ⟨none,.stuck,none⟩
 -- literals without elements,to which a row is appended early
 let Eu:List (Nat×Nat):=(List.range pre).filterMap fun i=>match at_ i with
  | ⟨some d,.append _ _ (.tmp t) _,_⟩ =>
   if (List.range i).any (fun j=>match at_ j with|⟨some t',.buildSlice _ [] [],none⟩=>t' == t|_=>false)&&(List.range n).all (fun j=>j == i || !(at_ j).reads.contains t) then some (t,d) else none
  | _=>none
 let isVoid (d:Nat):Bool:=Eu.any fun v=>v.2 == d
 -- appending in a chain
 let bad:Option Nat:=(List.range pre).find? fun i=>match at_ i with
  | ⟨some d,.append _ _ (.tmp t) _,_⟩=>!isVoid d&&(List.range i).any (fun j=>match at_ j with|⟨some t',.append _ _ _ _,_⟩=>t' == t|_=>false)
  | _=>false
 let Zv:=Eu.flatMap fun v=>[v.1+2000000,v.2+3000000]
 -- boxes laid early and written to early,once
 let mK:List (Nat×Nat):=(List.range pre).filterMap fun i=>match at_ i with
  | ⟨none,.store _ (.tmp t) _,none⟩ =>
   if (List.range i).any (fun j=>match at_ j with|⟨some t',.alloc _,none⟩=>t' == t|_=>false)&&(List.range n).all (fun j=>j == i || !(at_ j).reads.contains t) then some (i,t) else none
  | _=>none
 let Bz (i:Nat):Bool:=mK.any fun f=>f.1 == i
 if !mK.isEmpty then
  -- the last operation too,if it is such a write that waits for all
  let more:List (Nat×Nat):=(List.range n).filterMap fun i=>if i < pre then none else match at_ i with
   | ⟨none,.store _ (.tmp t) _,none⟩ =>
    if (List.range i).any (fun j=>match at_ j with|⟨some t',.alloc _,none⟩=>t' == t|_=>false)&&(List.range n).all (fun j=>j == i || !(at_ j).reads.contains t)&&decide (i == pre) then some (i,t) else none
   | _=>none
  let order:=(List.range pre).filter (fun i=>!Bz i)++(List.range pre).filter Bz++(List.range n).filter (fun i=>pre<=i)
  let pos:=(List.range n).map fun j=>order.findIdx (· == j)
  some (order,pos,(mK++more).map fun f=>f.2+4000000)
 else
 -- a call in the caller's memory,told by a mark
 let bad:Option Nat:=match bad with
  | some i=>some i
  | none=>(List.range n).find? fun i=>match at_ i with
   | ⟨some _,.iR _ _ _,none⟩=>true
   | _=>false
 match bad with
 | none=>if !Eu.isEmpty then some (List.range n,List.range n,Zv) else
  match (List.range pre).find? (fun i=>Pm (at_ i)||(match at_ i with|⟨none,.store _ (.tmp _) _,none⟩=>true|_=>false)) with
  | none=>none
  | some p =>
   -- an early write,and reads of cells that need not wait for it
   let ms:=masks ops.toList []
   let own:List Nat:=match at_ p with
    | ⟨none,.store _ (.tmp t) _,none⟩=>[t+6000000]
    | _=>[]
   some (List.range n,List.range n,own++(List.range p).flatMap fun j=>if (ms.getD p 0).testBit j then [] else match at_ j with
    | ⟨some d,.iw _,none⟩=>[d+1000000]
    | ⟨some d,.fieldAddr _ _,none⟩=>[d+5000000]
    | ⟨some d,.load _ _ (.tmp a),none⟩=>[d+5000000,a+7000000]
    | ⟨some d,.buildSlice _ _ _,none⟩|⟨some d,.build _ _,none⟩=>[d+9000000]
    | _=>[])
 | some i =>
  let ms:=masks ops.toList []
  let dep (j:Nat):Bool:=j == i||(ms.getD j 0).testBit i
  let order:=(List.range n).filter (fun j=>!dep j)++(List.range n).filter dep
  let pos:=(List.range n).map fun j=>order.findIdx (· == j)
  let Po:=(List.range n).flatMap fun j=>if dep j||(ms.getD i 0).testBit j||sU (at_ j) then [] else match (at_ j).dst with
   | some d=>match (at_ j).op with
    | .load _ _ (.tmp a)=>if Z.contains a then [d+5000000,a+7000000] else [d+8000000]
    | _=>[d+1000000,d+5000000,d+8000000,d+9000000].filter fun z=>match (at_ j).op with
    | .buildSlice _ _ _|.build _ _=>z == d+9000000
    | .load _ _ _=>z == d+8000000
    | .fieldAddr _ _=>z == d+5000000
    | _=>z == d+1000000
   | none=>[]
  some (order,pos,Po++Zv)
def ND (P:Program) (Z:List Nat) (nt:Nat) (ops:Array Oper) (vs:List ae):Option aP :=
 match zuV Z ops vs (KU ops vs) with
 | none=>none
 | some (order,pos,Z') =>
  let ops':=reorder ops order pos
  match yH P (Z'++Z) nt ops' ops'.toList with
  | none=>none
  | some vs'=>if VA ops.size order pos&&F5 ops' vs' (KU ops' vs') then some (.region (some (KU ops' vs')) vs') else none
def KW (s:Nat) (o:Oper):Oper:={ o with after:=(o.after.filter fun e=>decide (s<=e.on)).map fun e=>{ e with on:=e.on - s },guard:=o.guard.map fun g=>(g.1 - s,g.2) }
def yJ (ops:Array Oper) (s:Nat):Array Oper:=(ops.toList.take s).toArray
def uR (ops:Array Oper) (s:Nat):Array Oper:=((ops.toList.drop s).map (KW s)).toArray
def VB (ops:Array Oper) (s:Nat):Bool:=decide (s<=ops.size)&&(List.range ops.size).all fun i =>
 ((ops.getD i default).after.all fun e=>!Region.binds .any e||decide (e.on < i)) &&
 (if i < s then (match (ops.getD i default).guard with
  | some g=>decide (g.1 < s)
  | none=>true)
 else (match (ops.getD i default).guard with
  | some g=>decide (s<=g.1)
  | none=>true)&&(List.range s).all fun j=>((masks ops.toList []).getD i 0).testBit j)
def ztE (Z:List Nat) (id:Nat):List Nat:=(Z.filter fun z=>z / 1000 == 100000+id).map (· % 1000)
def NF (P:Program) (Z:List Nat) (nt:Nat) (ops:Array Oper):Option aP:=match yH P Z nt ops ops.toList with
 | none=>none
 | some vs=>match ND P Z nt ops vs with
  | some c=>some c
  | none=>if F5 ops vs (KU ops vs) then some (.region (some (KU ops vs)) vs) else none
def NG (P:Program) (Z:List Nat) (nt:Nat):List Nat->Array Oper->Option aP
 | [],ops=>NF P Z nt ops
 | s::ss,ops=>if VB ops s then match NF P Z nt (yJ ops s),NG P Z nt ss (uR ops s) with
  | some a,some b=>some (.seq a b)
  | _,_=>none else none
def zM (P:Program) (Z:List Nat) (nt:Nat):Code->Option aP
 | .skip|.label _=>some .skip
 | .region id ops draw=>match ztE Z id with
  | s::ss=>if draw then NG P Z nt (s::ss) ops else none
  | []=>match yH P Z nt ops ops.toList with
   | none=>none
   | some vs=>if draw then match ND P Z nt ops vs with
    | some c=>some c
    | none=>(if F5 ops vs (KU ops vs) then some (.region (some (KU ops vs)) vs) else none) else some (.region none vs)
 | .seq a b=>match zM P Z nt a,zM P Z nt b with
  | some x,some y=>some (.seq x y)
  | _,_=>none
 | .cond c a b=>match zB c,zM P Z nt a,zM P Z nt b with
  | some z,some x,some y=>some (.cond z x y)
  | _,_,_=>none
 | .block id c=>(zM P Z nt c).map (.block id)
 | .loop c=>(zM P Z nt c).map .loop
 | .rangeFunc f params assign body=>match zB f,zM P Z nt assign,zM P Z nt body with
  | some z,some x,some y=>if params.toList.all (fun t=>decide (t < nt))&&x.bO&&y.bO then some (.rangeFunc z params.toList x y) else none
  | _,_,_=>none
 | .exit id=>some (.exit id)
 | .ret=>some .ret
 | .scope c=>zM P Z nt c
 | .goto _|.refuse _=>none
def TD (P:Program):ResultVar->Option j6
 | .tmp t=>some (.tmp t)
 | .cell t ty=>match jW P ty,zU P ty with
  | some g,some s=>if g=false/\s≠1 then none else some (.cell t s g)
  | _,_=>none
def NH (P:Program):List ResultVar->Option (List j6)
 | []=>some []
 | r::rs=>match TD P r with
  | none=>none
  | some v=>match NH P rs with
   | none=>none
   | some vs=>some (v::vs)
def zi (P:Program) (Z:List Nat) (fn:Func):Option ai :=
 match fn.body,NH P fn.results.toList with
 | some c, some rs => if fn.name == "runtime.NumGoroutine" || !decide (fn.params.size + fn.nfree <= fn.ntmps) then none else
  (zM P Z fn.ntmps c).map fun v=>⟨fn.params.size+fn.nfree,fn.ntmps,rs,v⟩
 | _,_=>none
end Go.Proofs.YtmmhnfghklppiaaGreat.Vm
