/- The program for the machine: a table of its code, and that all of it is what the compiler makes. What the functions that check problems compute: the program's, and the specification's. -/
import Derived.Test.YtmmhnfghklppiaaGreatWk10
import Derived.Test.YtmmhnfghklppiaaGreatWk11
import Derived.Test.YtmmhnfghklppiaaGreatWk12
import Derived.Test.YtmmhnfghklppiaaGreatWk8
import Derived.Test.YtmmhnfghklppiaaGreatWk13
import Derived.Test.YtmmhnfghklppiaaGreatWk7
namespace Go.Proofs.YtmmhnfghklppiaaGreat.Vm
open Go
def table:List (Nat×ai):=[(5,c5),(9,c9),(10,c10),(11,c11),(13,c13),(14,c14),(15,c15),(20,c20),(21,c21),(22,c22),(23,c23),(24,c24),(27,c27),(28,c28),(31,c31),(32,c32),(33,c33),(34,c34),(35,c35),(36,c36),(37,c37),(38,c38),(39,c39),(44,c44),(45,c45),(46,c46),(47,c47),(48,c48),(49,c49),(50,c50),(52,c52),(53,c53),(54,c54),(55,c55),(56,c56),(57,c57),(58,c58),(59,c59),(60,c60),(62,c62),(63,c63),(64,c64),(65,c65),(66,c66),(67,c67),(68,c68),(69,c69),(70,c70),(71,c71),(72,c72),(73,c73),(74,c74),(75,c75),(76,c76),(77,c77),(78,c78),(79,c79),(90,c90),(91,c91),(92,c92),(93,c93),(94,c94),(95,c95),(96,c96),(97,c97),(98,c98),(99,c99),(100,c100),(101,c101),(102,c102),(103,c103),(104,c104),(105,c105),(106,c106),(107,c107),(110,c110),(112,c112),(113,c113),(114,c114),(115,c115),(116,c116),(117,c117),(118,c118),(119,c119),(120,c120),(121,c121),(122,c122),(123,c123),(124,c124),(125,c125),(126,c126),(138,c138),(139,c139),(140,c140),(141,c141),(142,c142),(143,c143),(144,c144),(145,c145),(146,c146),(147,c147),(154,c154),(155,c155),(157,c157)]
def Kv:List Nat:=[43,63,64,65,66,73,76,79,87,90,94,98,108,113,114,127,128,129,130,131,132,134,135,148,150,151,152,156]
def G:Prog:={ func:=fun f=>(table.find? (fun p=>p.1 == f)).map (·.2),shared:=fun f=>Kv.contains f,ext:=fun _=>none,lC:=fun f xs H=>if f=63 then ZV xs H else none }
theorem all_nil {α:Type} {p:α->Prop}:∀ a∈([]:List α),p a:=fun a h=>by simp at h
theorem all_cons {α:Type} {p:α->Prop} {a:α} {l:List α} (h:p a) (hs:∀ b∈l,p b):∀ b∈a::l,p b:=fun b hb=>by
 rcases List.mem_cons.1 hb with rfl|h1
 .exact h
 .exact hs b h1
theorem zr3:∀ p∈table,∃ fn Z,Tryz.prog.funcs[p.1]?=some fn/\zi Tryz.prog Z fn=some p.2 :=
 all_cons ⟨_,_,Tryz.func5,k5⟩ <|
 all_cons ⟨_,_,Tryz.func9,k9⟩ <|
 all_cons ⟨_,_,Tryz.func10,k10⟩ <|
 all_cons ⟨_,_,Tryz.func11,k11⟩ <|
 all_cons ⟨_,_,Tryz.func13,k13⟩ <|
 all_cons ⟨_,_,Tryz.func14,k14⟩ <|
 all_cons ⟨_,_,Tryz.func15,k15⟩ <|
 all_cons ⟨_,_,Tryz.func20,k20⟩ <|
 all_cons ⟨_,_,Tryz.func21,k21⟩ <|
 all_cons ⟨_,_,Tryz.func22,k22⟩ <|
 all_cons ⟨_,_,Tryz.func23,k23⟩ <|
 all_cons ⟨_,_,Tryz.func24,k24⟩ <|
 all_cons ⟨_,_,Tryz.func27,k27⟩ <|
 all_cons ⟨_,_,Tryz.func28,k28⟩ <|
 all_cons ⟨_,_,Tryz.func31,k31⟩ <|
 all_cons ⟨_,_,Tryz.func32,k32⟩ <|
 all_cons ⟨_,_,Tryz.func33,k33⟩ <|
 all_cons ⟨_,_,Tryz.func34,k34⟩ <|
 all_cons ⟨_,_,Tryz.func35,k35⟩ <|
 all_cons ⟨_,_,Tryz.func36,k36⟩ <|
 all_cons ⟨_,_,Tryz.func37,k37⟩ <|
 all_cons ⟨_,_,Tryz.func38,k38⟩ <|
 all_cons ⟨_,_,Tryz.func39,k39⟩ <|
 all_cons ⟨_,_,Tryz.func44,k44⟩ <|
 all_cons ⟨_,_,Tryz.func45,k45⟩ <|
 all_cons ⟨_,_,Tryz.func46,k46⟩ <|
 all_cons ⟨_,_,Tryz.func47,k47⟩ <|
 all_cons ⟨_,_,Tryz.func48,k48⟩ <|
 all_cons ⟨_,_,Tryz.func49,k49⟩ <|
 all_cons ⟨_,_,Tryz.func50,k50⟩ <|
 all_cons ⟨_,_,Tryz.func52,k52⟩ <|
 all_cons ⟨_,_,Tryz.func53,k53⟩ <|
 all_cons ⟨_,_,Tryz.func54,k54⟩ <|
 all_cons ⟨_,_,Tryz.func55,k55⟩ <|
 all_cons ⟨_,_,Tryz.func56,k56⟩ <|
 all_cons ⟨_,_,Tryz.func57,k57⟩ <|
 all_cons ⟨_,_,Tryz.func58,k58⟩ <|
 all_cons ⟨_,_,Tryz.func59,k59⟩ <|
 all_cons ⟨_,_,Tryz.func60,k60⟩ <|
 all_cons ⟨_,_,Tryz.func62,k62⟩ <|
 all_cons ⟨_,_,Tryz.func63,k63⟩ <|
 all_cons ⟨_,_,Tryz.func64,k64⟩ <|
 all_cons ⟨_,_,Tryz.func65,k65⟩ <|
 all_cons ⟨_,_,Tryz.func66,k66⟩ <|
 all_cons ⟨_,_,Tryz.func67,k67⟩ <|
 all_cons ⟨_,_,Tryz.func68,k68⟩ <|
 all_cons ⟨_,_,Tryz.func69,k69⟩ <|
 all_cons ⟨_,_,Tryz.func70,k70⟩ <|
 all_cons ⟨_,_,Tryz.func71,k71⟩ <|
 all_cons ⟨_,_,Tryz.func72,k72⟩ <|
 all_cons ⟨_,_,Tryz.func73,k73⟩ <|
 all_cons ⟨_,_,Tryz.func74,k74⟩ <|
 all_cons ⟨_,_,Tryz.func75,k75⟩ <|
 all_cons ⟨_,_,Tryz.func76,k76⟩ <|
 all_cons ⟨_,_,Tryz.func77,k77⟩ <|
 all_cons ⟨_,_,Tryz.func78,k78⟩ <|
 all_cons ⟨_,_,Tryz.func79,k79⟩ <|
 all_cons ⟨_,_,Tryz.func90,k90⟩ <|
 all_cons ⟨_,_,Tryz.func91,k91⟩ <|
 all_cons ⟨_,_,Tryz.func92,k92⟩ <|
 all_cons ⟨_,_,Tryz.func93,k93⟩ <|
 all_cons ⟨_,_,Tryz.func94,k94⟩ <|
 all_cons ⟨_,_,Tryz.func95,k95⟩ <|
 all_cons ⟨_,_,Tryz.func96,k96⟩ <|
 all_cons ⟨_,_,Tryz.func97,k97⟩ <|
 all_cons ⟨_,_,Tryz.func98,k98⟩ <|
 all_cons ⟨_,_,Tryz.func99,k99⟩ <|
 all_cons ⟨_,_,Tryz.func100,k100⟩ <|
 all_cons ⟨_,_,Tryz.func101,k101⟩ <|
 all_cons ⟨_,_,Tryz.func102,k102⟩ <|
 all_cons ⟨_,_,Tryz.func103,k103⟩ <|
 all_cons ⟨_,_,Tryz.func104,k104⟩ <|
 all_cons ⟨_,_,Tryz.func105,k105⟩ <|
 all_cons ⟨_,_,Tryz.func106,k106⟩ <|
 all_cons ⟨_,_,Tryz.func107,k107⟩ <|
 all_cons ⟨_,_,Tryz.func110,k110⟩ <|
 all_cons ⟨_,_,Tryz.func112,k112⟩ <|
 all_cons ⟨_,_,Tryz.func113,k113⟩ <|
 all_cons ⟨_,_,Tryz.func114,k114⟩ <|
 all_cons ⟨_,_,Tryz.func115,k115⟩ <|
 all_cons ⟨_,_,Tryz.func116,k116⟩ <|
 all_cons ⟨_,_,Tryz.func117,k117⟩ <|
 all_cons ⟨_,_,Tryz.func118,k118⟩ <|
 all_cons ⟨_,_,Tryz.func119,k119⟩ <|
 all_cons ⟨_,_,Tryz.func120,k120⟩ <|
 all_cons ⟨_,_,Tryz.func121,k121⟩ <|
 all_cons ⟨_,_,Tryz.func122,k122⟩ <|
 all_cons ⟨_,_,Tryz.func123,k123⟩ <|
 all_cons ⟨_,_,Tryz.func124,k124⟩ <|
 all_cons ⟨_,_,Tryz.func125,k125⟩ <|
 all_cons ⟨_,_,Tryz.func126,k126⟩ <|
 all_cons ⟨_,_,Tryz.func138,k138⟩ <|
 all_cons ⟨_,_,Tryz.func139,k139⟩ <|
 all_cons ⟨_,_,Tryz.func140,k140⟩ <|
 all_cons ⟨_,_,Tryz.func141,k141⟩ <|
 all_cons ⟨_,_,Tryz.func142,k142⟩ <|
 all_cons ⟨_,_,Tryz.func143,k143⟩ <|
 all_cons ⟨_,_,Tryz.func144,k144⟩ <|
 all_cons ⟨_,_,Tryz.func145,k145⟩ <|
 all_cons ⟨_,_,Tryz.func146,k146⟩ <|
 all_cons ⟨_,_,Tryz.func147,k147⟩ <|
 all_cons ⟨_,_,Tryz.func154,k154⟩ <|
 all_cons ⟨_,_,Tryz.func155,k155⟩ <|
 all_cons ⟨_,_,Tryz.func157,k157⟩ <|
 all_nil
theorem gOk:ZC Tryz.prog G :=
 ⟨by kernel_rfl,fun f vf h=>by
  simp only [G,Option.map_eq_some_iff] at h;obtain ⟨p,hp,rfl⟩:=h;have h1:=List.mem_of_find?_eq_some hp;have h2:=List.find?_some hp;simp at h2;have:=zr3 p h1;rwa [h2] at this,fun f g ps r h=>by simp [G] at h,fun f xs H r H1 h=>by
  simp only [G] at h
  split at h
  .rename_i hf;subst hf;exact zor ⟨_,Tryz.func63,by kernel_rfl,by kernel_rfl⟩ Tryz.slices_Sort_int h
  .simp at h⟩
theorem g5:G.func 5=some c5:=by kernel_rfl
theorem g9:G.func 9=some c9:=by kernel_rfl
theorem g10:G.func 10=some c10:=by kernel_rfl
theorem g11:G.func 11=some c11:=by kernel_rfl
theorem g13:G.func 13=some c13:=by kernel_rfl
theorem g14:G.func 14=some c14:=by kernel_rfl
theorem g15:G.func 15=some c15:=by kernel_rfl
theorem g20:G.func 20=some c20:=by kernel_rfl
theorem g21:G.func 21=some c21:=by kernel_rfl
theorem g22:G.func 22=some c22:=by kernel_rfl
theorem g23:G.func 23=some c23:=by kernel_rfl
theorem g24:G.func 24=some c24:=by kernel_rfl
theorem g27:G.func 27=some c27:=by kernel_rfl
theorem g28:G.func 28=some c28:=by kernel_rfl
theorem g33:G.func 33=some c33:=by kernel_rfl
theorem g35:G.func 35=some c35:=by kernel_rfl
theorem g37:G.func 37=some c37:=by kernel_rfl
theorem g38:G.func 38=some c38:=by kernel_rfl
theorem g39:G.func 39=some c39:=by kernel_rfl
theorem g44:G.func 44=some c44:=by kernel_rfl
theorem g45:G.func 45=some c45:=by kernel_rfl
theorem g46:G.func 46=some c46:=by kernel_rfl
theorem g48:G.func 48=some c48:=by kernel_rfl
theorem g50:G.func 50=some c50:=by kernel_rfl
theorem g52:G.func 52=some c52:=by kernel_rfl
theorem g53:G.func 53=some c53:=by kernel_rfl
theorem g54:G.func 54=some c54:=by kernel_rfl
theorem g55:G.func 55=some c55:=by kernel_rfl
theorem g56:G.func 56=some c56:=by kernel_rfl
theorem g57:G.func 57=some c57:=by kernel_rfl
theorem g58:G.func 58=some c58:=by kernel_rfl
theorem g59:G.func 59=some c59:=by kernel_rfl
theorem g60:G.func 60=some c60:=by kernel_rfl
theorem g62:G.func 62=some c62:=by kernel_rfl
theorem g63:G.func 63=some c63:=by kernel_rfl
theorem g64:G.func 64=some c64:=by kernel_rfl
theorem g70:G.func 70=some c70:=by kernel_rfl
theorem g71:G.func 71=some c71:=by kernel_rfl
theorem g72:G.func 72=some c72:=by kernel_rfl
theorem g73:G.func 73=some c73:=by kernel_rfl
theorem g74:G.func 74=some c74:=by kernel_rfl
theorem g75:G.func 75=some c75:=by kernel_rfl
theorem g76:G.func 76=some c76:=by kernel_rfl
theorem g77:G.func 77=some c77:=by kernel_rfl
theorem g78:G.func 78=some c78:=by kernel_rfl
theorem g79:G.func 79=some c79:=by kernel_rfl
theorem g90:G.func 90=some c90:=by kernel_rfl
theorem g91:G.func 91=some c91:=by kernel_rfl
theorem g92:G.func 92=some c92:=by kernel_rfl
theorem g93:G.func 93=some c93:=by kernel_rfl
theorem g94:G.func 94=some c94:=by kernel_rfl
theorem g95:G.func 95=some c95:=by kernel_rfl
theorem g96:G.func 96=some c96:=by kernel_rfl
theorem g97:G.func 97=some c97:=by kernel_rfl
theorem g99:G.func 99=some c99:=by kernel_rfl
theorem g100:G.func 100=some c100:=by kernel_rfl
theorem g101:G.func 101=some c101:=by kernel_rfl
theorem g102:G.func 102=some c102:=by kernel_rfl
theorem g103:G.func 103=some c103:=by kernel_rfl
theorem g104:G.func 104=some c104:=by kernel_rfl
theorem g105:G.func 105=some c105:=by kernel_rfl
theorem g106:G.func 106=some c106:=by kernel_rfl
theorem g107:G.func 107=some c107:=by kernel_rfl
theorem g112:G.func 112=some c112:=by kernel_rfl
theorem g113:G.func 113=some c113:=by kernel_rfl
theorem g114:G.func 114=some c114:=by kernel_rfl
theorem g115:G.func 115=some c115:=by kernel_rfl
theorem g116:G.func 116=some c116:=by kernel_rfl
theorem g117:G.func 117=some c117:=by kernel_rfl
theorem g118:G.func 118=some c118:=by kernel_rfl
theorem g119:G.func 119=some c119:=by kernel_rfl
theorem g120:G.func 120=some c120:=by kernel_rfl
theorem g121:G.func 121=some c121:=by kernel_rfl
theorem g122:G.func 122=some c122:=by kernel_rfl
theorem g123:G.func 123=some c123:=by kernel_rfl
theorem g124:G.func 124=some c124:=by kernel_rfl
theorem g125:G.func 125=some c125:=by kernel_rfl
theorem g126:G.func 126=some c126:=by kernel_rfl
theorem g138:G.func 138=some c138:=by kernel_rfl
theorem g139:G.func 139=some c139:=by kernel_rfl
theorem g140:G.func 140=some c140:=by kernel_rfl
theorem g141:G.func 141=some c141:=by kernel_rfl
theorem g142:G.func 142=some c142:=by kernel_rfl
theorem g143:G.func 143=some c143:=by kernel_rfl
theorem g144:G.func 144=some c144:=by kernel_rfl
theorem g145:G.func 145=some c145:=by kernel_rfl
theorem g146:G.func 146=some c146:=by kernel_rfl
theorem g147:G.func 147=some c147:=by kernel_rfl
theorem g154:G.func 154=some c154:=by kernel_rfl
theorem g155:G.func 155=some c155:=by kernel_rfl
theorem g157:G.func 157=some c157:=by kernel_rfl
theorem zy (f:Nat):G.ext f=none:=rfl
set_option linter.unusedSimpArgs false
set_option linter.unusedVariables false
set_option maxHeartbeats 1000000
theorem zmh {cl:Callee} {env:Env} {H:Heap} {neg:Bool} {n:Nat} {os:List Nat} {x y:aa}:step cl env H (.og neg n os x y)=if DV (x.eval env)=true/\DV (y.eval env)=true/\(x.eval env).cells.length=n/\(y.eval env).cells.length=n then
   match xZ (x.eval env).cells (y.eval env).cells os with
   | some b=>some (.val (.pure (.bool (b != neg))))
   | none=>none
  else none:=rfl
def mZ (a b c:Int):Bool:=decide (b<=a)&&decide (a<=c)
def E9 (s:Span) (lo hi:Int):Bool:=decide (lo<=s.lo)&&decide (s.lo<=s.hi)&&decide (s.hi<=hi)
def o7 (b:Box):Bool:=E9 b.x (-1048576) 1048576&&E9 b.y (-1048576) 1048576
def jU (b:Box):Bool:=o7 b&&decide (b.x.hi - b.x.lo < 1024)&&decide (b.y.hi - b.y.lo < 1024)
def qX (f:Fact) (n:Int):Bool :=
 mZ f.id 0 1099511627776&&mZ f.a 0 (n - 1)&&mZ f.b 0 (n - 1) && !decide (f.a=f.b)&&E9 f.span (-17592186044416) 17592186044416 &&
  (if f.kind=2 then mZ f.c 0 (n - 1) && !decide (f.c=f.a) && !decide (f.c=f.b)&&decide (f.quarter=0)
   else decide (f.c=0)&&(if f.kind=1\/f.kind=5\/f.kind=6 then decide (f.quarter=0) else if f.kind=4 then decide (f.quarter=0)&&decide (f.span.lo=0)
    else if f.kind=3 then mZ f.quarter 0 3&&decide (f.span.lo=0)&&decide (f.span.hi=0) else false))
theorem sh52:G.shared 52=false:=by decide
theorem e52 (n:Nat) (a b c:Int):zK G (n+1) 52 [.int .i64 a,.int .i64 b,.int .i64 c]=some (.bool (mZ a b c)):=by
 refine zz (zy _) rfl g52 rfl ?_
 (repeat' first|simp [*,zb,c52,mZ]|(apply za<;>intro _ h<;>try simp [-Nat.le_zero_eq] at h))
@[simp] theorem d52 (n:Nat) (H:Heap) (a:Int) (b:Int) (c:Int):zH (zu G (n+1)) H (.pure (.func 52 [])) [.pure (.int .i64 a),.pure (.int .i64 b),.pure (.int .i64 c)]=some (.val (.pure (.bool (mZ a b c)))) :=
 ze (ps:=[_,_,_]) (caps:=[]) sh52 (e52 n a b c)
theorem zvR:G.shared 112=false:=by decide
theorem e112 (n:Nat) (s:Span) (lo hi:Int):zK G (n+1) 112 [.agg s.cells,.int .i64 lo,.int .i64 hi]=some (.bool (E9 s lo hi)):=by
 refine zz (zy _) rfl g112 rfl ?_
 (repeat' first|simp [*,zb,c112,Span.cells,E9]|(apply za<;>intro _ h<;>try simp [-Nat.le_zero_eq] at h))
@[simp] theorem d112 (n:Nat) (H:Heap) (CU:Int) (CV:Int) (lo:Int) (hi:Int):zH (zu G (n+1)) H (.pure (.func 112 [])) [.pure (.agg [.int .i64 CU,.int .i64 CV]),.pure (.int .i64 lo),.pure (.int .i64 hi)]=some (.val (.pure ((fun (s:Span)=>.bool (E9 s lo hi)) (⟨CU,CV⟩:Span)))) :=
 ze (ps:=[_,_,_]) (caps:=[]) zvR (e112 n (⟨CU,CV⟩:Span) lo hi)
theorem sh91:G.shared 91=false:=by decide
theorem e91 (n:Nat) (b:Box):zK G (n+2) 91 [.agg b.cells]=some (.bool (o7 b)):=by
 refine zz (zy _) rfl g91 rfl ?_
 (repeat' first|simp [*,zb,c91,Box.cells,o7]|(apply za<;>intro _ h<;>try simp [-Nat.le_zero_eq] at h))
theorem sh71:G.shared 71=false:=by decide
theorem e71 (n:Nat) (s:Span) (lo hi:Int):zK G (n+1) 71 [.agg s.cells,.int .i64 lo,.int .i64 hi]=some (.bool (E9 s lo hi)):=by
 refine zz (zy _) rfl g71 rfl ?_
 (repeat' first|simp [*,zb,c71,Span.cells,E9]|(apply za<;>intro _ h<;>try simp [-Nat.le_zero_eq] at h))
@[simp] theorem d71 (n:Nat) (H:Heap) (CU:Int) (CV:Int) (lo:Int) (hi:Int):zH (zu G (n+1)) H (.pure (.func 71 [])) [.pure (.agg [.int .i64 CU,.int .i64 CV]),.pure (.int .i64 lo),.pure (.int .i64 hi)]=some (.val (.pure ((fun (s:Span)=>.bool (E9 s lo hi)) (⟨CU,CV⟩:Span)))) :=
 ze (ps:=[_,_,_]) (caps:=[]) sh71 (e71 n (⟨CU,CV⟩:Span) lo hi)
theorem sh37:G.shared 37=false:=by decide
theorem e37 (n:Nat) (b:Box):zK G (n+2) 37 [.agg b.cells]=some (.bool (o7 b)):=by
 refine zz (zy _) rfl g37 rfl ?_
 (repeat' first|simp [*,zb,c37,Box.cells,o7]|(apply za<;>intro _ h<;>try simp [-Nat.le_zero_eq] at h))
theorem sh92:G.shared 92=false:=by decide
theorem e92 (n:Nat) (s:Span) (h:s.hi - s.lo < 4611686018427387904) (h2:-4611686018427387904 < s.hi - s.lo):zK G (n+1) 92 [.agg s.cells]=some (.int .i64 (s.hi - s.lo+1)):=by
 refine zz (zy _) rfl g92 rfl ?_
 have w1:IntKind.i64.wrap (s.hi - s.lo)=s.hi - s.lo:=wrap64 (by omega) (by omega);have w2:IntKind.i64.wrap (s.hi - s.lo+1)=s.hi - s.lo+1:=wrap64 (by omega) (by omega);simp [*,zb,c92,Span.cells]
theorem sh93:G.shared 93=false:=by decide
theorem e93 (n:Nat) (f:Fact) (m:Nat) (hm:m < 1000):zK G (n+2) 93 [.agg f.cells,.int .i64 m]=some (.bool (qX f m)):=by
 refine zz (zy _) rfl g93 rfl ?_
 have w1:IntKind.i64.wrap ((m:Int) - 1)=(m:Int) - 1:=wrap64 (by omega) (by omega);(repeat' first|simp [*,zb,c93,Fact.cells,zmh,xZ,DV]|(apply za<;>intro _ h<;>try simp [-Nat.le_zero_eq] at h))
 all_goals try (simp [qX, *];done)
 all_goals try (simp_all [qX];done)
 all_goals (by_cases e1:f.span.lo=0<;>by_cases e2:f.span.hi=0)
 all_goals (repeat' first|simp [*,zb]|(apply za<;>intro _ h<;>try simp [-Nat.le_zero_eq] at h))
 all_goals try (simp [qX, *];done)
 all_goals try (simp_all [qX];done)
end Go.Proofs.YtmmhnfghklppiaaGreat.Vm
