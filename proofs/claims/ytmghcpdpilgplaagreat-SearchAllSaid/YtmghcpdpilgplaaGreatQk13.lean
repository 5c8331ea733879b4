/- The program for the machine: a table of its code, and that all of it is what the compiler makes. What the functions that check problems compute: the program's, and the specification's. -/
import Derived.Test.YtmghcpdpilgplaaGreatQk10
import Derived.Test.YtmghcpdpilgplaaGreatQk11
import Derived.Test.YtmghcpdpilgplaaGreatQk8
import Derived.Test.YtmghcpdpilgplaaGreatQk12
import Derived.Test.YtmghcpdpilgplaaGreatQk7
namespace Go.Proofs.YtmghcpdpilgplaaGreat.Vm
open Go
def table:List (Nat×VFunc):=[(8,c8),(9,c9),(21,c21),(22,c22),(28,c28),(32,c32),(35,c35),(42,c42),(43,c43),(44,c44),(45,c45),(46,c46),(47,c47),(48,c48),(49,c49),(50,c50),(52,c52),(55,c55),(58,c58),(59,c59),(60,c60),(61,c61),(62,c62),(63,c63),(64,c64),(65,c65),(67,c67),(69,c69),(72,c72),(73,c73),(74,c74),(75,c75),(76,c76),(77,c77),(78,c78),(79,c79),(80,c80),(85,c85),(86,c86),(87,c87),(88,c88),(89,c89),(90,c90),(91,c91),(92,c92),(93,c93),(94,c94),(95,c95),(96,c96),(97,c97),(98,c98),(99,c99),(100,c100),(101,c101),(102,c102),(103,c103),(104,c104),(105,c105),(106,c106),(107,c107),(108,c108),(109,c109),(110,c110),(111,c111),(112,c112),(113,c113),(114,c114),(115,c115),(116,c116),(117,c117),(118,c118),(123,c123),(124,c124),(125,c125),(126,c126),(127,c127),(128,c128),(129,c129),(130,c130),(131,c131),(132,c132),(133,c133),(134,c134),(135,c135),(136,c136),(137,c137),(138,c138),(139,c139),(140,c140),(149,c149),(150,c150),(151,c151),(152,c152),(153,c153),(154,c154)]
def sharedL:List Nat:=[71,72,73,74,75,86,87,95,114,118,121,123,131,140,141,142,143,144,145,147,148,151,155,157,158,159,161]
def G:Prog:={ func:=fun f=>(table.find? (fun p=>p.1 == f)).map (·.2),shared:=fun f=>sharedL.contains f,ext:=fun _=>none,extRun:=fun f xs H=>if f=72 then sortRun xs H else none }
theorem all_nil {α:Type} {p:α→Prop}:∀ a∈([]:List α),p a:=fun a h=>by simp at h
theorem all_cons {α:Type} {p:α→Prop} {a:α} {l:List α} (h:p a) (hs:∀ b∈l,p b):∀ b∈a::l,p b:=fun b hb=>by
 rcases List.mem_cons.1 hb with rfl|h1
 ·exact h
 ·exact hs b h1
theorem table_ok:∀ p∈table,∃ fn Z,Tryz.prog.funcs[p.1]?=some fn∧compileFn Tryz.prog Z fn=some p.2 :=
 all_cons ⟨_,_,Tryz.func8,k8⟩ <|
 all_cons ⟨_,_,Tryz.func9,k9⟩ <|
 all_cons ⟨_,_,Tryz.func21,k21⟩ <|
 all_cons ⟨_,_,Tryz.func22,k22⟩ <|
 all_cons ⟨_,_,Tryz.func28,k28⟩ <|
 all_cons ⟨_,_,Tryz.func32,k32⟩ <|
 all_cons ⟨_,_,Tryz.func35,k35⟩ <|
 all_cons ⟨_,_,Tryz.func42,k42⟩ <|
 all_cons ⟨_,_,Tryz.func43,k43⟩ <|
 all_cons ⟨_,_,Tryz.func44,k44⟩ <|
 all_cons ⟨_,_,Tryz.func45,k45⟩ <|
 all_cons ⟨_,_,Tryz.func46,k46⟩ <|
 all_cons ⟨_,_,Tryz.func47,k47⟩ <|
 all_cons ⟨_,_,Tryz.func48,k48⟩ <|
 all_cons ⟨_,_,Tryz.func49,k49⟩ <|
 all_cons ⟨_,_,Tryz.func50,k50⟩ <|
 all_cons ⟨_,_,Tryz.func52,k52⟩ <|
 all_cons ⟨_,_,Tryz.func55,k55⟩ <|
 all_cons ⟨_,_,Tryz.func58,k58⟩ <|
 all_cons ⟨_,_,Tryz.func59,k59⟩ <|
 all_cons ⟨_,_,Tryz.func60,k60⟩ <|
 all_cons ⟨_,_,Tryz.func61,k61⟩ <|
 all_cons ⟨_,_,Tryz.func62,k62⟩ <|
 all_cons ⟨_,_,Tryz.func63,k63⟩ <|
 all_cons ⟨_,_,Tryz.func64,k64⟩ <|
 all_cons ⟨_,_,Tryz.func65,k65⟩ <|
 all_cons ⟨_,_,Tryz.func67,k67⟩ <|
 all_cons ⟨_,_,Tryz.func69,k69⟩ <|
 all_cons ⟨_,_,Tryz.func72,k72⟩ <|
 all_cons ⟨_,_,Tryz.func73,k73⟩ <|
 all_cons ⟨_,_,Tryz.func74,k74⟩ <|
 all_cons ⟨_,_,Tryz.func75,k75⟩ <|
 all_cons ⟨_,_,Tryz.func76,k76⟩ <|
 all_cons ⟨_,_,Tryz.func77,k77⟩ <|
 all_cons ⟨_,_,Tryz.func78,k78⟩ <|
 all_cons ⟨_,_,Tryz.func79,k79⟩ <|
 all_cons ⟨_,_,Tryz.func80,k80⟩ <|
 all_cons ⟨_,_,Tryz.func85,k85⟩ <|
 all_cons ⟨_,_,Tryz.func86,k86⟩ <|
 all_cons ⟨_,_,Tryz.func87,k87⟩ <|
 all_cons ⟨_,_,Tryz.func88,k88⟩ <|
 all_cons ⟨_,_,Tryz.func89,k89⟩ <|
 all_cons ⟨_,_,Tryz.func90,k90⟩ <|
 all_cons ⟨_,_,Tryz.func91,k91⟩ <|
 all_cons ⟨_,_,Tryz.func92,k92⟩ <|
 all_cons ⟨_,_,Tryz.func93,k93⟩ <|
 all_cons ⟨_,_,Tryz.func94,k94⟩ <|
 all_cons ⟨_,_,Tryz.func95,k95⟩ <|
 all_cons ⟨_,_,Tryz.func96,k96⟩ <|
 all_cons ⟨_,_,Tryz.func97,k97⟩ <|
 all_cons ⟨_,_,Tryz.func98,k98⟩ <|
 all_cons ⟨_,_,Tryz.func99,k99⟩ <|
 all_cons ⟨_,_,Tryz.func100,k100⟩ <|
 all_cons ⟨_,_,Tryz.func101,k101⟩ <|
 all_cons ⟨_,_,Tryz.func102,k102⟩ <|
 all_cons ⟨_,_,Tryz.func103,k103⟩ <|
 all_cons ⟨_,_,Tryz.func104,k104⟩ <|
 all_cons ⟨_,_,Tryz.func105,k105⟩ <|
 all_cons ⟨_,_,Tryz.func106,k106⟩ <|
 all_cons ⟨_,_,Tryz.func107,k107⟩ <|
 all_cons ⟨_,_,Tryz.func108,k108⟩ <|
 all_cons ⟨_,_,Tryz.func109,k109⟩ <|
 all_cons ⟨_,_,Tryz.func110,k110⟩ <|
 all_cons ⟨_,_,Tryz.func111,k111⟩ <|
 all_cons ⟨_,_,Tryz.func112,k112⟩ <|
 all_cons ⟨_,_,Tryz.func113,k113⟩ <|
 all_cons ⟨_,_,Tryz.func114,k114⟩ <|
 all_cons ⟨_,_,Tryz.func115,k115⟩ <|
 all_cons ⟨_,_,Tryz.func116,k116⟩ <|
 all_cons ⟨_,_,Tryz.func117,k117⟩ <|
 all_cons ⟨_,_,Tryz.func118,k118⟩ <|
 all_cons ⟨_,_,Tryz.func123,k123⟩ <|
 all_cons ⟨_,_,Tryz.func124,k124⟩ <|
 all_cons ⟨_,_,Tryz.func125,k125⟩ <|
 all_cons ⟨_,_,Tryz.func126,k126⟩ <|
 all_cons ⟨_,_,Tryz.func127,k127⟩ <|
 all_cons ⟨_,_,Tryz.func128,k128⟩ <|
 all_cons ⟨_,_,Tryz.func129,k129⟩ <|
 all_cons ⟨_,_,Tryz.func130,k130⟩ <|
 all_cons ⟨_,_,Tryz.func131,k131⟩ <|
 all_cons ⟨_,_,Tryz.func132,k132⟩ <|
 all_cons ⟨_,_,Tryz.func133,k133⟩ <|
 all_cons ⟨_,_,Tryz.func134,k134⟩ <|
 all_cons ⟨_,_,Tryz.func135,k135⟩ <|
 all_cons ⟨_,_,Tryz.func136,k136⟩ <|
 all_cons ⟨_,_,Tryz.func137,k137⟩ <|
 all_cons ⟨_,_,Tryz.func138,k138⟩ <|
 all_cons ⟨_,_,Tryz.func139,k139⟩ <|
 all_cons ⟨_,_,Tryz.func140,k140⟩ <|
 all_cons ⟨_,_,Tryz.func149,k149⟩ <|
 all_cons ⟨_,_,Tryz.func150,k150⟩ <|
 all_cons ⟨_,_,Tryz.func151,k151⟩ <|
 all_cons ⟨_,_,Tryz.func152,k152⟩ <|
 all_cons ⟨_,_,Tryz.func153,k153⟩ <|
 all_cons ⟨_,_,Tryz.func154,k154⟩ <|
 all_nil
theorem gOk:GOk Tryz.prog G :=
 ⟨by kernel_rfl,fun f vf h=>by
  simp only [G,Option.map_eq_some_iff] at h;obtain ⟨p,hp,rfl⟩:=h;have h1:=List.mem_of_find?_eq_some hp;have h2:=List.find?_some hp;simp at h2;have:=table_ok p h1;rwa [h2] at this,fun f g ps r h=>by simp [G] at h,fun f xs H r H1 h=>by
  simp only [G] at h
  split at h
  ·rename_i hf;subst hf;exact sort_runOk ⟨_,Tryz.func72,by kernel_rfl,by kernel_rfl⟩ Tryz.slices_Sort_int h
  ·simp at h⟩
theorem g8:G.func 8=some c8:=by kernel_rfl
theorem g9:G.func 9=some c9:=by kernel_rfl
theorem g21:G.func 21=some c21:=by kernel_rfl
theorem g22:G.func 22=some c22:=by kernel_rfl
theorem g28:G.func 28=some c28:=by kernel_rfl
theorem g35:G.func 35=some c35:=by kernel_rfl
theorem g42:G.func 42=some c42:=by kernel_rfl
theorem g43:G.func 43=some c43:=by kernel_rfl
theorem g49:G.func 49=some c49:=by kernel_rfl
theorem g50:G.func 50=some c50:=by kernel_rfl
theorem g52:G.func 52=some c52:=by kernel_rfl
theorem g55:G.func 55=some c55:=by kernel_rfl
theorem g58:G.func 58=some c58:=by kernel_rfl
theorem g59:G.func 59=some c59:=by kernel_rfl
theorem g60:G.func 60=some c60:=by kernel_rfl
theorem g61:G.func 61=some c61:=by kernel_rfl
theorem g62:G.func 62=some c62:=by kernel_rfl
theorem g63:G.func 63=some c63:=by kernel_rfl
theorem g67:G.func 67=some c67:=by kernel_rfl
theorem g85:G.func 85=some c85:=by kernel_rfl
theorem g86:G.func 86=some c86:=by kernel_rfl
theorem g87:G.func 87=some c87:=by kernel_rfl
theorem g88:G.func 88=some c88:=by kernel_rfl
theorem g89:G.func 89=some c89:=by kernel_rfl
theorem g90:G.func 90=some c90:=by kernel_rfl
theorem g91:G.func 91=some c91:=by kernel_rfl
theorem g92:G.func 92=some c92:=by kernel_rfl
theorem g93:G.func 93=some c93:=by kernel_rfl
theorem g94:G.func 94=some c94:=by kernel_rfl
theorem g95:G.func 95=some c95:=by kernel_rfl
theorem g96:G.func 96=some c96:=by kernel_rfl
theorem g100:G.func 100=some c100:=by kernel_rfl
theorem g101:G.func 101=some c101:=by kernel_rfl
theorem g102:G.func 102=some c102:=by kernel_rfl
theorem g103:G.func 103=some c103:=by kernel_rfl
theorem g104:G.func 104=some c104:=by kernel_rfl
theorem g105:G.func 105=some c105:=by kernel_rfl
theorem g106:G.func 106=some c106:=by kernel_rfl
theorem g107:G.func 107=some c107:=by kernel_rfl
theorem g108:G.func 108=some c108:=by kernel_rfl
theorem g109:G.func 109=some c109:=by kernel_rfl
theorem g110:G.func 110=some c110:=by kernel_rfl
theorem g111:G.func 111=some c111:=by kernel_rfl
theorem g112:G.func 112=some c112:=by kernel_rfl
theorem g113:G.func 113=some c113:=by kernel_rfl
theorem g114:G.func 114=some c114:=by kernel_rfl
theorem g115:G.func 115=some c115:=by kernel_rfl
theorem g116:G.func 116=some c116:=by kernel_rfl
theorem g117:G.func 117=some c117:=by kernel_rfl
theorem g128:G.func 128=some c128:=by kernel_rfl
theorem g129:G.func 129=some c129:=by kernel_rfl
theorem g130:G.func 130=some c130:=by kernel_rfl
theorem g132:G.func 132=some c132:=by kernel_rfl
theorem g133:G.func 133=some c133:=by kernel_rfl
theorem g134:G.func 134=some c134:=by kernel_rfl
theorem g135:G.func 135=some c135:=by kernel_rfl
theorem g136:G.func 136=some c136:=by kernel_rfl
theorem g137:G.func 137=some c137:=by kernel_rfl
theorem g138:G.func 138=some c138:=by kernel_rfl
theorem g139:G.func 139=some c139:=by kernel_rfl
theorem g153:G.func 153=some c153:=by kernel_rfl
theorem g154:G.func 154=some c154:=by kernel_rfl
theorem ext_none (f:Nat):G.ext f=none:=rfl
set_option linter.unusedSimpArgs false
set_option linter.unusedVariables false
set_option maxHeartbeats 1000000
theorem st_aggEq {cl:Callee} {env:Env} {H:Heap} {neg:Bool} {n:Nat} {os:List Nat} {x y:Opnd}:step cl env H (.aggEq neg n os x y)=if isAggV (x.eval env)=true∧isAggV (y.eval env)=true∧(x.eval env).cells.length=n∧(y.eval env).cells.length=n then
   match cellsEq (x.eval env).cells (y.eval env).cells os with
   | some b=>some (.val (.pure (.bool (b != neg))))
   | none=>none
  else none:=rfl
def inB (a b c:Int):Bool:=decide (b≤a)&&decide (a≤c)
def spanB (s:Span) (lo hi:Int):Bool:=decide (lo≤s.lo)&&decide (s.lo≤s.hi)&&decide (s.hi≤hi)
def validB (b:Box):Bool:=spanB b.x (-1048576) 1048576&&spanB b.y (-1048576) 1048576
def boxB (b:Box):Bool:=validB b&&decide (b.x.hi - b.x.lo < 1024)&&decide (b.y.hi - b.y.lo < 1024)
def formedB (f:Fact) (n:Int):Bool :=
 inB f.id 0 1099511627776&&inB f.a 0 (n - 1)&&inB f.b 0 (n - 1) && !decide (f.a=f.b)&&spanB f.span (-17592186044416) 17592186044416 &&
  (if f.kind=2 then inB f.c 0 (n - 1) && !decide (f.c=f.a) && !decide (f.c=f.b)&&decide (f.quarter=0)
   else decide (f.c=0)&&(if f.kind=1∨f.kind=5∨f.kind=6 then decide (f.quarter=0) else if f.kind=4 then decide (f.quarter=0)&&decide (f.span.lo=0)
    else if f.kind=3 then inB f.quarter 0 3&&decide (f.span.lo=0)&&decide (f.span.hi=0) else false))
theorem sh50:G.shared 50=false:=by decide
theorem e50 (n:Nat) (a b c:Int):callP G (n+1) 50 [.int .i64 a,.int .i64 b,.int .i64 c]=some (.bool (inB a b c)):=by
 refine callP_of (ext_none _) rfl g50 rfl ?_
 (repeat' first|simp [*,initEnv,c50,inB]|(apply wpIf_two<;>intro _ h<;>try simp [-Nat.le_zero_eq] at h))
@[simp] theorem d50 (n:Nat) (H:Heap) (a:Int) (b:Int) (c:Int):doCall (calleeOf G (n+1)) H (.pure (.func 50 [])) [.pure (.int .i64 a),.pure (.int .i64 b),.pure (.int .i64 c)]=some (.val (.pure (.bool (inB a b c)))) :=
 call_pureC (ps:=[_,_,_]) (caps:=[]) sh50 (e50 n a b c)
theorem sh132:G.shared 132=false:=by decide
theorem e132 (n:Nat) (s:Span) (lo hi:Int):callP G (n+1) 132 [.agg s.cells,.int .i64 lo,.int .i64 hi]=some (.bool (spanB s lo hi)):=by
 refine callP_of (ext_none _) rfl g132 rfl ?_
 (repeat' first|simp [*,initEnv,c132,Span.cells,spanB]|(apply wpIf_two<;>intro _ h<;>try simp [-Nat.le_zero_eq] at h))
@[simp] theorem d132 (n:Nat) (H:Heap) (s_lo:Int) (s_hi:Int) (lo:Int) (hi:Int):doCall (calleeOf G (n+1)) H (.pure (.func 132 [])) [.pure (.agg [.int .i64 s_lo,.int .i64 s_hi]),.pure (.int .i64 lo),.pure (.int .i64 hi)]=some (.val (.pure ((fun (s:Span)=>.bool (spanB s lo hi)) (⟨s_lo,s_hi⟩:Span)))) :=
 call_pureC (ps:=[_,_,_]) (caps:=[]) sh132 (e132 n (⟨s_lo,s_hi⟩:Span) lo hi)
theorem sh100:G.shared 100=false:=by decide
theorem e100 (n:Nat) (b:Box):callP G (n+2) 100 [.agg b.cells]=some (.bool (validB b)):=by
 refine callP_of (ext_none _) rfl g100 rfl ?_
 (repeat' first|simp [*,initEnv,c100,Box.cells,validB]|(apply wpIf_two<;>intro _ h<;>try simp [-Nat.le_zero_eq] at h))
theorem sh112:G.shared 112=false:=by decide
theorem e112 (n:Nat) (s:Span) (lo hi:Int):callP G (n+1) 112 [.agg s.cells,.int .i64 lo,.int .i64 hi]=some (.bool (spanB s lo hi)):=by
 refine callP_of (ext_none _) rfl g112 rfl ?_
 (repeat' first|simp [*,initEnv,c112,Span.cells,spanB]|(apply wpIf_two<;>intro _ h<;>try simp [-Nat.le_zero_eq] at h))
@[simp] theorem d112 (n:Nat) (H:Heap) (s_lo:Int) (s_hi:Int) (lo:Int) (hi:Int):doCall (calleeOf G (n+1)) H (.pure (.func 112 [])) [.pure (.agg [.int .i64 s_lo,.int .i64 s_hi]),.pure (.int .i64 lo),.pure (.int .i64 hi)]=some (.val (.pure ((fun (s:Span)=>.bool (spanB s lo hi)) (⟨s_lo,s_hi⟩:Span)))) :=
 call_pureC (ps:=[_,_,_]) (caps:=[]) sh112 (e112 n (⟨s_lo,s_hi⟩:Span) lo hi)
theorem sh61:G.shared 61=false:=by decide
theorem e61 (n:Nat) (b:Box):callP G (n+2) 61 [.agg b.cells]=some (.bool (validB b)):=by
 refine callP_of (ext_none _) rfl g61 rfl ?_
 (repeat' first|simp [*,initEnv,c61,Box.cells,validB]|(apply wpIf_two<;>intro _ h<;>try simp [-Nat.le_zero_eq] at h))
theorem sh85:G.shared 85=false:=by decide
theorem e85 (n:Nat) (s:Span) (h:s.hi - s.lo < 4611686018427387904) (h2:-4611686018427387904 < s.hi - s.lo):callP G (n+1) 85 [.agg s.cells]=some (.int .i64 (s.hi - s.lo+1)):=by
 refine callP_of (ext_none _) rfl g85 rfl ?_
 have w1:IntKind.i64.wrap (s.hi - s.lo)=s.hi - s.lo:=wrap64 (by omega) (by omega);have w2:IntKind.i64.wrap (s.hi - s.lo+1)=s.hi - s.lo+1:=wrap64 (by omega) (by omega);(repeat' first|simp [*,initEnv,c85,Span.cells]|(apply wpIf_two<;>intro _ h<;>try simp [-Nat.le_zero_eq] at h))
theorem sh101:G.shared 101=false:=by decide
theorem e101 (n:Nat) (f:Fact) (m:Nat) (hm:m < 1000):callP G (n+2) 101 [.agg f.cells,.int .i64 m]=some (.bool (formedB f m)):=by
 refine callP_of (ext_none _) rfl g101 rfl ?_
 have w1:IntKind.i64.wrap ((m:Int) - 1)=(m:Int) - 1:=wrap64 (by omega) (by omega);(repeat' first|simp [*,initEnv,c101,Fact.cells,st_aggEq,cellsEq,isAggV]|(apply wpIf_two<;>intro _ h<;>try simp [-Nat.le_zero_eq] at h))
 all_goals try (simp [formedB, *];done)
 all_goals try (simp_all [formedB];done)
 all_goals (by_cases e1:f.span.lo=0<;>by_cases e2:f.span.hi=0)
 all_goals (repeat' first|simp [*,initEnv]|(apply wpIf_two<;>intro _ h<;>try simp [-Nat.le_zero_eq] at h))
 all_goals try (simp [formedB, *];done)
 all_goals try (simp_all [formedB];done)
end Go.Proofs.YtmghcpdpilgplaaGreat.Vm
