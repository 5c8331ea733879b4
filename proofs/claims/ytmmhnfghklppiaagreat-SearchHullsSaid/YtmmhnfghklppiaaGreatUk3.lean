/- From the model's operations to the machine's: one at a time. It only defines. -/
import Derived.Test.YtmmhnfghklppiaaGreatUk1
set_option linter.unusedVariables false
set_option linter.unusedSimpArgs false
namespace Go.Proofs.YtmmhnfghklppiaaGreat.Vm
open Go
def TV:Value->Option PV
 | .bool b=>some (.bool b)
 | .int k n=>some (.int k n)
 | .string s=>some (.str s)
 | .pointer none=>some .l8
 | .slice none 0 0=>some .nils
 | .nilFunc=>some .l9
 | _=>none
def FU:List Value->Option (List PV)
 | []=>some []
 | v::vs=>match TV v with
  | none=>none
  | some p=>match FU vs with
   | none=>none
   | some ps=>some (p::ps)
def TW:Value->Option PV
 | .agg cs=>(FU cs.toList).map .agg
 | v=>TV v
def zI:Operand->Option ag
 | .tmp t=>some (.tmp t)
 | .const (.func (.func f) first caps)=>if first.size=0/\caps.size=0 then some (.const (.func f [])) else none
 | .const v=>(TW v).map .const
 | .func f=>some (.const (.func f []))
 | .global _=>none
def A8:List Operand->Option (List ag)
 | []=>some []
 | x::xs=>match zI x with
  | none=>none
  | some y=>match A8 xs with
   | none=>none
   | some ys=>some (y::ys)
def xH:Option Operand->Option (Option ag)
 | none=>some none
 | some x=>(zI x).map some
def iT (P:Program) (t:TypeId):Option Nat:=(P.info? t).map (·.size)
def KU (P:Program) (t:TypeId):Option Nat:=(P.info? t).map (·.bytes)
def A9 (P:Program) (t:TypeId):Option (List PV) :=
 match P.info? t with
 | some i=>match i.zero with
  | some z=>if z.cells.size=i.size then FU z.cells.toList else none
  | none=>none
 | none=>none
def mf (P:Program) (t:TypeId):Option Bool :=
 match P.underlying t with
 | some (.struct _)|some (.array _ _)=>some true
 | some _=>some false
 | none=>none
def XE (P:Program) (t:TypeId):Option PV :=
 match P.info? t with
 | some i=>match i.zero with
  | some z=>TW z
  | none=>none
 | none=>none
def Ip (P:Program) (t:TypeId):Option Bool :=
 match P.underlying t with
 | some (.int _)=>some false
 | some .string=>some true
 | _=>none
def Rz (P:Program) (t:TypeId):Option Bool :=
 match P.underlying t with
 | some (.map k _)=>Ip P k
 | _=>none
def ZR (P:Program) (t:TypeId):Option PV :=
 match P.underlying t with
 | some (.map _ e)=>XE P e
 | _=>none
def Nw (P:Program) (t:TypeId) (i:Nat):Option (Nat×Nat) :=
 match P.underlying t with
 | some (.struct fs)=>match fs[i]? with
  | some f=>(iT P f.type).map fun s=>(f.offset,s)
  | none=>none
 | some (.array _ e)=>(iT P e).map fun s=>(i*s,s)
 | _=>none
def ZT (P:Program) (t:TypeId):Bool :=
 match P.underlying t with
 | some (.struct fs)=>fs.toList.all fun f=>(iT P f.type).isSome
 | some (.array _ e)=>(iT P e).isSome
 | _=>false
def FV (place:Nat->Option (Nat×Nat)):List (Nat×Operand)->Option (List (Nat×Nat×ag))
 | []=>some []
 | (i,x)::rest=>match place i with
  | none=>none
  | some (o,s)=>match zI x with
   | none=>none
   | some y=>match FV place rest with
    | none=>none
    | some ys=>if s=0 then none else some ((o,s,y)::ys)
def TY (P:Program) (lv:TypeId->Nat->Option (List Nat)) (s at_:Nat):List Field->Option (List Nat)
 | []=>some []
 | f :: fs => if f.name = "_" then none else
  match iT P f.type,mf P f.type,lv f.type (at_+f.offset),TY P lv s at_ fs with
  | some sf,some g,some l,some ls=>if f.offset+sf<=s/\(g=false->sf=1) then some (l++ls) else none
  | _,_,_,_=>none
def Ny (P:Program):Nat->TypeId->Nat->Option (List Nat)
 | 0,_,_=>none
 | d+1,t,at_=>match P.underlying t with
  | some (.int _)=>if at_ < 500000 then some [at_] else none
  | some .bool=>some [at_+500000]
  | some (.struct fs)=>if P.stoodInHeld t||P.eqGuardType P.depth t then none else
    match iT P t with
    | some s=>TY P (Ny P d) s at_ fs.toList
    | none=>none
  | _=>none
def zN (P:Program) (Z:List Nat) (o:Oper):Option mG :=
 match o.op with
 | .move x|.assign x=>(zI x).map .iq
 | .pick c a b=>match zI c,zI a,zI b with
  | some c,some a,some b=>some (.pick c a b)
  | _,_,_=>none
 | .alloc t=>(A9 P t).map .alloc
 | .box _ x=>match o.dst with
  | some d=>if Z.contains d then (zI x).map .box else (zI x).map .FQ
  | none=>(zI x).map .box
 | .build t parts=>match A9 P t,FV (Nw P t) parts.toList with
  | some z,some ps=>if ZT P t then some (.build z ps) else none
  | _,_=>none
 | .buildSlice t len parts=>match P.underlying t with
  | some (.slice e)=>match iT P e,A9 P e with
   | some s,some z=>if 0 < s/\len*s<=65536/\z.length=s then
     (FV (fun i=>some (i*s,s)) parts.toList).map fun ps=>.buildSlice s ((List.replicate len z).flatten) ps
    else none
   | _,_=>none
  | _=>none
 | .load t a=>match mf P t,iT P t,zI a with
  | some g,some s,some x=>if g=false/\s≠1 then none else some (.load g s x)
  | _,_,_=>none
 | .store t a x=>match iT P t,zI a,zI x with
  | some s,some a,some x=>if s=0 then none else some (.store s a x)
  | _,_,_=>none
 | .nilCheck x=>(zI x).map .nilCheck
 | .binOp op t x y _=>match zI x,zI y,P.underlying t with
  | some x,some y,some d=>match d with
   | .struct _=>match Ny P 8 t 0 with
    | some ls=>match iT P t with
     | some s=>if op=.eql then some (.lW false s ls x y) else if op=.neq then some (.lW true s ls x y) else none
     | none=>none
    | none=>none
   | .int _|.string=>some (.bin op .num x y)
   | .bool=>some (.bin op .bool x y)
   | .slice _=>some (.bin op .slice x y)
   | .pointer _=>some (.bin op .pointer x y)
   | .func _ _ _=>some (.bin op .func x y)
   | _=>none
  | _,_,_=>none
 | .unOp op _ x=>(zI x).map (.un op)
 | .convert src dst x=>match P.underlying src,P.underlying dst,zI x with
  | some (.int _),some (.int k),some x=>some (.toInt k x)
  | some .string,some .string,some x=>some (.uG x)
  | some .string,some (.slice e),some x=>match P.underlying e,iT P e with
   | some (.int .u8),some 1=>some (.uH x)
   | _,_=>none
  | some (.slice e),some .string,some x=>match P.underlying e with
   | some (.int .u8)=>some (.toStr x)
   | _=>none
  | _,_,_=>none
 | .makeFunc (.func f) first caps=>if first.size=0 then (A8 caps.toList).map (.makeFunc f) else if caps.size=0 then (A8 first.toList).map (.iD f) else none
 | .makeSlice t l c=>match P.underlying t with
  | some (.slice e)=>match iT P e,KU P e,A9 P e,zI l,zI c with
   | some s,some b,some z,some l,some c=>if 0 < s/\z.length=s then some (.makeSlice s b z l c) else none
   | _,_,_,_,_=>none
  | _=>none
 | .slice t x lo hi none=>match P.underlying t,zI x,xH lo,xH hi with
  | some (.slice e),some x,some lo,some hi=>(iT P e).map fun s=>.slice s x lo hi
  | some .string,some x,some lo,some hi=>some (.substr x lo hi)
  | _,_,_,_=>none
 | .slice t x lo (some hi) (some mx)=>match P.underlying t,zI x,xH lo,zI hi,zI mx with
  | some (.slice e),some x,some lo,some hi,some mx=>(iT P e).map fun s=>.slice3 s x lo hi mx
  | _,_,_,_,_=>none
 | .fieldAddr t x i=>match P.underlying t,zI x with
  | some (.struct fs),some x=>match fs[i]? with
   | some f=>match iT P f.type with
    | some s=>if s=0 then none else some (.fieldAddr f.offset x)
    | none=>none
   | none=>none
  | _,_=>none
 | .field t x i=>match P.underlying t,zI x with
  | some (.struct fs),some x=>match fs[i]? with
   | some f=>match iT P f.type,mf P f.type with
    | some s,some g=>if g=false/\s≠1 then none else some (.field f.offset s g x)
    | _,_=>none
   | none=>none
  | _,_=>none
 | .indexAddr t x i=>match P.underlying t,zI x,zI i with
  | some (.array n e),some x,some i=>(iT P e).map fun s=>.indexAddr s (some n) x i
  | some (.slice e),some x,some i=>(iT P e).map fun s=>.indexAddr s none x i
  | _,_,_=>none
 | .index t x i=>match P.underlying t,zI x,zI i with
  | some (.array n e),some x,some i=>match iT P e,mf P e with
   | some s,some g=>if g=false/\s≠1 then none else some (.index s n g x i)
   | _,_=>none
  | some .string,some x,some i=>some (.byteAt x i)
  | _,_,_=>none
 | .extract x i=>match o.dst with
  | some d=>if Z.contains d then (zI x).map (.idle i) else (zI x).map (.extract i)
  | none=>(zI x).map (.extract i)
 | .call c=>match c.callee with
  | .value f=>match zI f,A8 c.args.toList with
   | some f,some xs=>some (.call f xs)
   | _,_=>none
  | .builtin .len=>match c.args.toList,c.argTypes.toList with
   | [x],[t]=>match zI x,P.underlying t with
    | some x,some (.array n _)=>some (.yj n)
    | some x,some .string=>some (.yl x)
    | some x,some (.slice _)=>some (.xD x)
    | some x,some (.map _ _)=>some (.u7 x)
    | _,_=>none
   | _,_=>none
  | .builtin .cap=>match c.args.toList,c.argTypes.toList with
   | [x],[t]=>match zI x,P.underlying t with
    | some x,some (.slice _)=>some (.EK x)
    | _,_=>none
   | _,_=>none
  | .builtin .append=>match c.args.toList,c.argTypes.toList with
   | [x,y],[t,u]=>match zI x,zI y,P.underlying t,P.underlying u with
    | some x,some y,some (.slice e),some (.slice e')=>match iT P e,KU P e,iT P e',A9 P e with
     | some s,some b,some s',some z=>if 0 < s/\s=s'/\z.length=s/\0 < b then some (.append s b x y) else none
     | _,_,_,_=>none
    | some x,some y,some (.slice e),some (.int _)=>match iT P e,KU P e,A9 P e with
     | some s,some b,some z=>if 0 < s/\z.length=s/\0 < b then some (.uJ s b z x y) else none
     | _,_,_=>none
    | _,_,_,_=>none
   | _,_=>none
  | .builtin .max=>(A8 c.args.toList).map (.aZ true)
  | .builtin .min=>(A8 c.args.toList).map (.aZ false)
  | .builtin .clear=>match c.args.toList,c.argTypes.toList with
   | [x],[t]=>match zI x,P.underlying t with
    | some x,some (.slice e)=>match iT P e,A9 P e with
     | some s,some z=>if 0 < s/\z.length=s then some (.clear z x) else none
     | _,_=>none
    | _,_=>none
   | _,_=>none
  | _=>none
 | .makeMap _ none=>some .makeMap
 | .lookup t m k ok=>match Rz P t,ZR P t,zI m,zI k with
  | some str,some z,some m,some k=>some (.lookup str z ok m k)
  | _,_,_,_=>none
 | .mapUpdate t m k x|.insert t m k x=>match Rz P t,zI m,zI k,zI x with
  | some str,some m,some k,some x=>some (.rZ str m k x)
  | _,_,_,_=>none
 | _=>none
def GV (Z:List Nat) (dst:Option Nat) (v:mG):mG :=
 match dst with
 | none=>match v with
  | .store s (.tmp t) x=>if Z.contains (t+4000000) then .bB s (.tmp t) x else
   if Z.contains (t+6000000) then .fG s (.tmp t) x (Z.filterMap fun z=>if 7000000<=z/\z < 8000000 then some (.tmp (z - 7000000)) else none) else .store s (.tmp t) x
  | v=>v
 | some d=>match v with
  | .alloc z=>if Z.contains (d+4000000) then .nA z else .alloc z
  | .iq x=>if Z.contains (d+1000000) then .ym x else .iq x
  | .fieldAddr off x=>if Z.contains (d+5000000) then .lg off x else .fieldAddr off x
  | .load g s x=>if Z.contains (d+5000000) then .iQ g s x else if Z.contains (d+8000000) then .ve g s x else .load g s x
  | .slice s x lo hi=>if Z.contains (d+1000000) then .u6 s x lo hi else .slice s x lo hi
  | .buildSlice s [] []=>if Z.contains (d+2000000) then .jY s else .buildSlice s [] []
  | .buildSlice s z ps=>if Z.contains (d+9000000) then .oC s z ps else .buildSlice s z ps
  | .append s b x y=>if Z.contains (d+3000000) then .jW s b x y else .append s b x y
  | .call f xs=>if Z.contains (d+10000000) then .jB f xs (Z.filterMap fun z=>if 7000000<=z/\z < 8000000 then some (.tmp (z - 7000000)) else none) else .call f xs
  | .build z ps=>if Z.contains (d+9000000) then .qj z ps else .build z ps
  | v=>v
def XF (ops:Array Oper) (g:Option (Nat×Bool)):Option (Option (Option Nat×Bool)) :=
 match g with
 | none=>some none
 | some (j,want)=>match ops[j]? with
  | some o=>match o.dst with
   | some d=>some (some (some d,want))
   | none=>none
  | none=>none
def XG (P:Program) (Z:List Nat) (nt:Nat) (ops:Array Oper) (o:Oper):Option au :=
 match XF ops o.guard with
 | some g=>match o.dst with
  | some d=>if d < nt then some ⟨some d,GV Z (some d) ((zN P Z o).getD .stuck),g⟩ else none
  | none=>some ⟨none,GV Z none ((zN P Z o).getD .stuck),g⟩
 | none=>none
def Dr (P:Program) (Z:List Nat) (nt:Nat) (ops:Array Oper):List Oper->Option (List au)
 | []=>some []
 | o::os=>match XG P Z nt ops o with
  | none=>none
  | some v=>match Dr P Z nt ops os with
   | none=>none
   | some vs=>some (v::vs)
def qY:ag->List Nat
 | .tmp t=>[t]
 | .const _=>[]
def mG.reads:mG->List Nat
 | .iq x|.box x|.load _ _ x|.nilCheck x|.un _ x|.toInt _ x|.uG x|.uH x|.toStr x|.fieldAddr _ x|.field _ _ _ x|.extract _ x|.yl x|.u7 x|.xD x|.clear _ x|.EK x|.FQ x|.idle _ x|.ym x|.lg _ x|.iQ _ _ x|.ve _ _ x=>qY x
 | .pick a b c|.rZ _ a b c=>qY a++qY b++qY c
 | .alloc _|.yj _|.makeMap|.stuck|.jY _|.nA _=>[]
 | .build _ ps|.qj _ ps|.buildSlice _ _ ps|.oC _ _ ps=>ps.flatMap fun p=>qY p.2.2
 | .uJ _ _ _ a x|.store _ a x|.bin _ _ a x|.lW _ _ _ a x|.makeSlice _ _ _ a x|.indexAddr _ _ a x|.index _ _ _ a x|.byteAt a x|.append _ _ a x|.jW _ _ a x|.bB _ a x|.lookup _ _ _ a x=>qY a++qY x
 | .makeFunc _ xs|.iD _ xs|.aZ _ xs=>xs.flatMap qY
 | .slice _ x lo hi|.u6 _ x lo hi|.substr x lo hi=>qY x++(lo.map qY).getD []++(hi.map qY).getD []
 | .fG _ a x ls=>qY a++qY x++ls.flatMap qY
 | .slice3 _ x lo hi mx=>qY x++(lo.map qY).getD []++qY hi++qY mx
 | .call f xs=>qY f++xs.flatMap qY
 | .jB f xs ls=>qY f++xs.flatMap qY++ls.flatMap qY
def mG.plain:mG->mG
 | .fG s a x _=>.store s a x
 | .jB f xs _=>.call f xs
 | v=>v
def au.plain (o:au):au:={ o with op:=o.op.plain }
def au.reads (o:au):List Nat:=o.op.reads++(match o.guard with|some (some d,_)=>[d]|_=>[])
def XH (o:Oper) (j:Nat):Bool:=o.after.any fun e=>e.on == j&&Region.binds .any e
def zr3 (ms:List Nat) (o:Oper):Nat:=o.after.toList.foldl (fun m e=>if Region.binds .any e then m ||| (2 ^ e.on) ||| ms.getD e.on 0 else m) 0
def masks:List Oper->List Nat->List Nat
 | [],ms=>ms
 | o::os,ms=>masks os (ms++[zr3 ms o])
def wS (v:au):Bool:=match v.op with
 | .idle _ _|.ym _|.u6 _ _ _ _|.lg _ _|.iQ _ _ _|.ve _ _ _|.oC _ _ _|.qj _ _=>true
 | _=>false
def Nz (v:au):Option ag:=match v.op with
 | .iQ _ _ x=>some x
 | _=>none
def ZU:ag->ag->Bool
 | .tmp a,.tmp b=>a == b
 | _,_=>false
def XI (b:au) (x:ag):Bool:=match b.op with
 | .fG _ _ _ ls|.jB _ _ ls=>ls.any fun l=>ZU l x
 | .fieldAddr _ _=>true
 | _=>false
def TZ (v:au):Bool:=match v.op with
 | .rZ _ _ _ _=>true
 | _=>false
def EU (vs:List au) (i:Nat):Bool:=match vs[i]? with
 | some v=>wS v
 | none=>false
def ZV (ms:List Nat) (vs:List au) (i:Nat):Bool:=(List.range i).all fun j=>(ms.getD i 0).testBit j||EU vs j
def zrU (ms:List Nat) (vs:List au) (pre i:Nat) (v:au):Bool :=
 match v.dst,v.guard with
 | some d,none=>(List.range vs.length).all fun j=>j < pre||(match vs[j]? with
  | some b=>b.dst != some d&&v.op.reads.all (fun t=>b.dst != some t)&&(!b.plain.reads.contains d||(ms.getD j 0).testBit i)
  | none=>true)
 | _,_=>false
def RA (v:au):Bool:=match v with
 | ⟨none,.bB _ (.tmp _) _,none⟩=>true
 | _=>false
def inits (vs:List au) (pre:Nat):Nat:=((vs.drop pre).takeWhile RA).length
def zrZ (vs:List au) (ops:Array Oper) (pre i:Nat):Bool:=match vs[i]? with
 | some v=>(List.range pre).all fun j=>match vs[j]? with
   | some y=>(match y.dst with
    | some d=>!v.reads.contains d||XH (ops.getD i default) j
    | none=>true)
   | none=>true
 | none=>false
def zo4 (v:au):Bool:=match v.op with
 | .fG _ _ _ _=>true
 | _=>false
def zoF (v:au):Bool:=match v.op with
 | .jB _ _ _=>true
 | _=>false
def znF (vs:List au):Nat:=vs.length - (vs.reverse.takeWhile fun v=>!wS v).length
def O4 (ops:Array Oper) (vs:List au):Nat :=
 if vs.any RA then vs.findIdx RA else if vs.any zo4 then vs.findIdx zo4 else (fun m=>if vs.any zoF&&decide (m < znF vs) then vs.findIdx zoF else m) (ops.size - ((List.range ops.size).reverse.takeWhile (ZV (masks ops.toList []) vs)).length)
def J3 (ops:Array Oper) (vs:List au) (pre:Nat):Bool :=
 -- T9 lead back
 ((List.range ops.size).all fun i=>(ops.getD i default).after.all fun e=>!Region.binds .any e||e.on < i) &&
 -- from 'pre' on everything waits for everything before it
 ((List.range ops.size).all fun i=>i < pre+inits vs pre||ZV (masks ops.toList []) vs i) &&
 ((List.range ops.size).all fun i=>i < pre||pre+inits vs pre<=i||zrZ vs ops pre i) &&
 ((List.range vs.length).all fun i=>match vs[i]? with
  | some v=>(match Nz v with
   | some x=>(List.range vs.length).all fun j=>j < pre||(match vs[j]? with
    | some b=>TZ b||XI b x||((masks ops.toList []).getD j 0).testBit i
    | none=>true)
   | none=>true)
  | none=>true) &&
 decide (pre<=ops.size) &&
 ((List.range vs.length).all fun i=>match vs[i]? with
  | some v=>!wS v||(decide (i < pre)&&zrU (masks ops.toList []) vs pre i v)
  | none=>true) &&
 -- among the first ones each slot is written once,and what is read was written before,by one that must come first,or not at all
 ((List.range pre).all fun i=>(List.range pre).all fun j =>
  match vs[i]?,vs[j]? with
  | some a,some b =>
   (match b.dst with
    | some d=>(i == j||a.dst != some d)&&(!a.reads.contains d||(j < i&&XH (ops.getD i default) j))
    | none=>true)
  | _,_=>false)
def ZW (pos:Nat->Nat) (e:Edge):Edge:={ e with on:=pos e.on }
def Iq (pos:Nat->Nat) (o:Oper):Oper:={ o with after:=o.after.map (ZW pos),guard:=o.guard.map fun g=>(pos g.1,g.2) }
def Ba (pos:List Nat) (i:Nat):Nat:=if i < pos.length then pos.getD i 0 else i
def reorder (ops:Array Oper) (order pos:List Nat):Array Oper:=(order.map fun i=>Iq (Ba pos) (ops.getD i default)).toArray
def ZX (n:Nat) (order pos:List Nat):Bool :=
 order.length == n&&pos.length == n&&(List.range n).all fun i=>pos.getD i 0 < n&&order.getD i 0 < n&&order.getD (pos.getD i 0) 0 == i&&pos.getD (order.getD i 0) 0 == i
def zwm (Z:List Nat) (ops:Array Oper) (vs:List au) (pre:Nat):Option (List Nat×List Nat×List Nat) :=
 let n:=vs.length
 let at_ (i:Nat):au:=(vs[i]?).getD ⟨none,.stuck,none⟩
 -- literals without elements,to which a row is appended early
 let Ir:List (Nat×Nat):=(List.range pre).filterMap fun i=>match at_ i with
  | ⟨some d,.append _ _ (.tmp t) _,_⟩ =>
   if (List.range i).any (fun j=>match at_ j with|⟨some t',.buildSlice _ [] [],none⟩=>t' == t|_=>false)&&(List.range n).all (fun j=>j == i || !(at_ j).reads.contains t) then some (t,d) else none
  | _=>none
 let isVoid (d:Nat):Bool:=Ir.any fun v=>v.2 == d
 -- appending in a chain
 let bad:Option Nat:=(List.range pre).find? fun i=>match at_ i with
  | ⟨some d,.append _ _ (.tmp t) _,_⟩=>!isVoid d&&(List.range i).any (fun j=>match at_ j with|⟨some t',.append _ _ _ _,_⟩=>t' == t|_=>false)
  | _=>false
 let Zv:=Ir.flatMap fun v=>[v.1+2000000,v.2+3000000]
 -- boxes laid early and written to early,once
 let oF:List (Nat×Nat):=(List.range pre).filterMap fun i=>match at_ i with
  | ⟨none,.store _ (.tmp t) _,none⟩ =>
   if (List.range i).any (fun j=>match at_ j with|⟨some t',.alloc _,none⟩=>t' == t|_=>false)&&(List.range n).all (fun j=>j == i || !(at_ j).reads.contains t) then some (i,t) else none
  | _=>none
 let EW (i:Nat):Bool:=oF.any fun f=>f.1 == i
 if !oF.isEmpty then
  -- the last operation too,if it is such a write that waits for all
  let more:List (Nat×Nat):=(List.range n).filterMap fun i=>if i < pre then none else match at_ i with
   | ⟨none,.store _ (.tmp t) _,none⟩ =>
    if (List.range i).any (fun j=>match at_ j with|⟨some t',.alloc _,none⟩=>t' == t|_=>false)&&(List.range n).all (fun j=>j == i || !(at_ j).reads.contains t)&&decide (i == pre) then some (i,t) else none
   | _=>none
  let order:=(List.range pre).filter (fun i=>!EW i)++(List.range pre).filter EW++(List.range n).filter (fun i=>pre<=i)
  let pos:=(List.range n).map fun j=>order.findIdx (· == j)
  some (order,pos,(oF++more).map fun f=>f.2+4000000)
 else
 -- a call in the caller's memory,told by a mark
 let bad:Option Nat:=match bad with
  | some i=>some i
  | none=>(List.range n).find? fun i=>match at_ i with
   | ⟨some _,.jB _ _ _,none⟩=>true
   | _=>false
 match bad with
 | none=>if !Ir.isEmpty then some (List.range n,List.range n,Zv) else
  match (List.range pre).find? (fun i=>TZ (at_ i)||(match at_ i with|⟨none,.store _ (.tmp _) _,none⟩=>true|_=>false)) with
  | none=>none
  | some p =>
   -- an early write,and reads of cells that need not wait for it
   let ms:=masks ops.toList []
   let own:List Nat:=match at_ p with
    | ⟨none,.store _ (.tmp t) _,none⟩=>[t+6000000]
    | _=>[]
   some (List.range n,List.range n,own++(List.range p).flatMap fun j=>if (ms.getD p 0).testBit j then [] else match at_ j with
    | ⟨some d,.iq _,none⟩=>[d+1000000]
    | ⟨some d,.fieldAddr _ _,none⟩=>[d+5000000]
    | ⟨some d,.load _ _ (.tmp a),none⟩=>[d+5000000,a+7000000]
    | ⟨some d,.buildSlice _ _ _,none⟩|⟨some d,.build _ _,none⟩=>[d+9000000]
    | _=>[])
 | some i =>
  let ms:=masks ops.toList []
  let dep (j:Nat):Bool:=j == i||(ms.getD j 0).testBit i
  let order:=(List.range n).filter (fun j=>!dep j)++(List.range n).filter dep
  let pos:=(List.range n).map fun j=>order.findIdx (· == j)
  let Ua:=(List.range n).flatMap fun j=>if dep j||(ms.getD i 0).testBit j||wS (at_ j) then [] else match (at_ j).dst with
   | some d=>match (at_ j).op with
    | .load _ _ (.tmp a)=>if Z.contains a then [d+5000000,a+7000000] else [d+8000000]
    | _=>[d+1000000,d+5000000,d+8000000,d+9000000].filter fun z=>match (at_ j).op with
    | .buildSlice _ _ _|.build _ _=>z == d+9000000
    | .load _ _ _=>z == d+8000000
    | .fieldAddr _ _=>z == d+5000000
    | _=>z == d+1000000
   | none=>[]
  some (order,pos,Ua++Zv)
def RB (P:Program) (Z:List Nat) (nt:Nat) (ops:Array Oper) (vs:List au):Option aX :=
 match zwm Z ops vs (O4 ops vs) with
 | none=>none
 | some (order,pos,Z') =>
  let ops':=reorder ops order pos
  match Dr P (Z'++Z) nt ops' ops'.toList with
  | none=>none
  | some vs'=>if ZX ops.size order pos&&J3 ops' vs' (O4 ops' vs') then some (.region (some (O4 ops' vs')) vs') else none
def O5 (s:Nat) (o:Oper):Oper:={ o with after:=(o.after.filter fun e=>decide (s<=e.on)).map fun e=>{ e with on:=e.on - s },guard:=o.guard.map fun g=>(g.1 - s,g.2) }
def Dt (ops:Array Oper) (s:Nat):Array Oper:=(ops.toList.take s).toArray
def yo (ops:Array Oper) (s:Nat):Array Oper:=((ops.toList.drop s).map (O5 s)).toArray
def ZY (ops:Array Oper) (s:Nat):Bool:=decide (s<=ops.size)&&(List.range ops.size).all fun i =>
 ((ops.getD i default).after.all fun e=>!Region.binds .any e||decide (e.on < i)) &&
 (if i < s then (match (ops.getD i default).guard with
  | some g=>decide (g.1 < s)
  | none=>true)
 else (match (ops.getD i default).guard with
  | some g=>decide (s<=g.1)
  | none=>true)&&(List.range s).all fun j=>((masks ops.toList []).getD i 0).testBit j)
def zuG (Z:List Nat) (id:Nat):List Nat:=(Z.filter fun z=>z / 1000 == 100000+id).map (· % 1000)
def RF (P:Program) (Z:List Nat) (nt:Nat) (ops:Array Oper):Option aX:=match Dr P Z nt ops ops.toList with
 | none=>none
 | some vs=>match RB P Z nt ops vs with
  | some c=>some c
  | none=>if J3 ops vs (O4 ops vs) then some (.region (some (O4 ops vs)) vs) else none
def RG (P:Program) (Z:List Nat) (nt:Nat):List Nat->Array Oper->Option aX
 | [],ops=>RF P Z nt ops
 | s::ss,ops=>if ZY ops s then match RF P Z nt (Dt ops s),RG P Z nt ss (yo ops s) with
  | some a,some b=>some (.seq a b)
  | _,_=>none else none
def zR (P:Program) (Z:List Nat) (nt:Nat):Code->Option aX
 | .skip|.label _=>some .skip
 | .region id ops draw=>match zuG Z id with
  | s::ss=>if draw then RG P Z nt (s::ss) ops else none
  | []=>match Dr P Z nt ops ops.toList with
   | none=>none
   | some vs=>if draw then match RB P Z nt ops vs with
    | some c=>some c
    | none=>(if J3 ops vs (O4 ops vs) then some (.region (some (O4 ops vs)) vs) else none) else some (.region none vs)
 | .seq a b=>match zR P Z nt a,zR P Z nt b with
  | some x,some y=>some (.seq x y)
  | _,_=>none
 | .cond c a b=>match zI c,zR P Z nt a,zR P Z nt b with
  | some z,some x,some y=>some (.cond z x y)
  | _,_,_=>none
 | .block id c=>(zR P Z nt c).map (.block id)
 | .loop c=>(zR P Z nt c).map .loop
 | .rangeFunc f params assign body=>match zI f,zR P Z nt assign,zR P Z nt body with
  | some z,some x,some y=>if params.toList.all (fun t=>decide (t < nt))&&x.fE&&y.fE then some (.rangeFunc z params.toList x y) else none
  | _,_,_=>none
 | .exit id=>some (.exit id)
 | .ret=>some .ret
 | .scope c=>zR P Z nt c
 | .goto _|.refuse _=>none
def XJ (P:Program):ResultVar->Option mP
 | .tmp t=>some (.tmp t)
 | .cell t ty=>match mf P ty,iT P ty with
  | some g,some s=>if g=false/\s≠1 then none else some (.cell t s g)
  | _,_=>none
def RH (P:Program):List ResultVar->Option (List mP)
 | []=>some []
 | r::rs=>match XJ P r with
  | none=>none
  | some v=>match RH P rs with
   | none=>none
   | some vs=>some (v::vs)
def zl (P:Program) (Z:List Nat) (fn:Func):Option az :=
 match fn.body,RH P fn.results.toList with
 | some c, some rs => if fn.name == "runtime.NumGoroutine" || !decide (fn.params.size + fn.nfree <= fn.ntmps) then none else
  (zR P Z fn.ntmps c).map fun v=>⟨fn.params.size+fn.nfree,fn.ntmps,rs,v⟩
 | _,_=>none
end Go.Proofs.YtmmhnfghklppiaaGreat.Vm
