/- The program for the machine: a table of its code, and that all of it is what the compiler makes. What the functions of patterns and sights compute: the program's, and the specification's. -/
import Derived.Test.YtifmedfpnnfmoaaGreatDoorAk10
import Derived.Test.YtifmedfpnnfmoaaGreatDoorAk11
import Derived.Test.YtifmedfpnnfmoaaGreatDoorAk12
import Derived.Test.YtifmedfpnnfmoaaGreatDoorAk13
import Derived.Test.YtifmedfpnnfmoaaGreatDoorAk14
import Derived.Test.YtifmedfpnnfmoaaGreatDoorAk7
import Derived.Test.YtifmedfpnnfmoaaGreatDoorAk8
namespace Go.Proofs.YtifmedfpnnfmoaaGreatDoor.Vm
open Go
def table:List (Nat×VFunc):=[(4,c4),(5,c5),(6,c6),(7,c7),(8,c8),(15,c15),(16,c16),(17,c17),(18,c18),(19,c19),(20,c20),(21,c21),(22,c22),(23,c23),(24,c24),(25,c25),(26,c26),(27,c27),(28,c28),(29,c29),(30,c30),(31,c31),(32,c32),(33,c33),(34,c34),(47,c47),(48,c48),(49,c49),(50,c50),(51,c51),(52,c52),(53,c53),(54,c54),(55,c55),(56,c56),(57,c57),(58,c58),(59,c59),(60,c60),(61,c61),(62,c62),(63,c63),(64,c64),(65,c65),(66,c66),(67,c67),(68,c68),(69,c69),(70,c70),(71,c71),(83,c83),(84,c84),(85,c85),(86,c86),(87,c87),(88,c88),(89,c89),(90,c90),(91,c91),(92,c92),(93,c93),(94,c94),(95,c95),(96,c96),(97,c97),(98,c98),(99,c99),(100,c100),(103,c103),(104,c104),(105,c105),(106,c106),(107,c107),(108,c108),(109,c109),(110,c110),(111,c111),(113,c113),(114,c114),(115,c115),(116,c116),(117,c117),(118,c118),(119,c119),(120,c120),(121,c121),(122,c122),(123,c123),(124,c124),(136,c136),(137,c137),(138,c138),(139,c139),(142,c142),(143,c143),(144,c144),(145,c145),(146,c146),(155,c155),(157,c157),(158,c158),(159,c159),(162,c162)]
def sharedL:List Nat:=[32,60,61,63,64,65,70,99,101,125,126,127,128,129,130,132,133,136,147,149,150,151,160]
def G:Prog:={ func:=fun f=>(table.find? (fun p=>p.1 == f)).map (·.2),shared:=fun f=>sharedL.contains f,ext:=fun _=>none,extRun:=fun f xs H=>if f=65 then zcS xs H else if f=34 then zdV xs H else none }
theorem zlX {α:Type} {p:α->Prop}:∀ a∈([]:List α),p a:=fun a h=>by simp at h
theorem all_cons {α:Type} {p:α->Prop} {a:α} {l:List α} (h:p a) (hs:∀ b∈l,p b):∀ b∈a::l,p b:=fun b hb=>by
 rcases List.mem_cons.1 hb with rfl|h1
 ·exact h
 ·exact hs b h1
theorem zlc:∀ p∈table,∃ fn Z,Tryz.prog.funcs[p.1]?=some fn/\zf Tryz.prog Z fn=some p.2 :=
 all_cons ⟨_,_,Tryz.func4,k4⟩ <|
 all_cons ⟨_,_,Tryz.func5,k5⟩ <|
 all_cons ⟨_,_,Tryz.func6,k6⟩ <|
 all_cons ⟨_,_,Tryz.func7,k7⟩ <|
 all_cons ⟨_,_,Tryz.func8,k8⟩ <|
 all_cons ⟨_,_,Tryz.func15,k15⟩ <|
 all_cons ⟨_,_,Tryz.func16,k16⟩ <|
 all_cons ⟨_,_,Tryz.func17,k17⟩ <|
 all_cons ⟨_,_,Tryz.func18,k18⟩ <|
 all_cons ⟨_,_,Tryz.func19,k19⟩ <|
 all_cons ⟨_,_,Tryz.func20,k20⟩ <|
 all_cons ⟨_,_,Tryz.func21,k21⟩ <|
 all_cons ⟨_,_,Tryz.func22,k22⟩ <|
 all_cons ⟨_,_,Tryz.func23,k23⟩ <|
 all_cons ⟨_,_,Tryz.func24,k24⟩ <|
 all_cons ⟨_,_,Tryz.func25,k25⟩ <|
 all_cons ⟨_,_,Tryz.func26,k26⟩ <|
 all_cons ⟨_,_,Tryz.func27,k27⟩ <|
 all_cons ⟨_,_,Tryz.func28,k28⟩ <|
 all_cons ⟨_,_,Tryz.func29,k29⟩ <|
 all_cons ⟨_,_,Tryz.func30,k30⟩ <|
 all_cons ⟨_,_,Tryz.func31,k31⟩ <|
 all_cons ⟨_,_,Tryz.func32,k32⟩ <|
 all_cons ⟨_,_,Tryz.func33,k33⟩ <|
 all_cons ⟨_,_,Tryz.func34,k34⟩ <|
 all_cons ⟨_,_,Tryz.func47,k47⟩ <|
 all_cons ⟨_,_,Tryz.func48,k48⟩ <|
 all_cons ⟨_,_,Tryz.func49,k49⟩ <|
 all_cons ⟨_,_,Tryz.func50,k50⟩ <|
 all_cons ⟨_,_,Tryz.func51,k51⟩ <|
 all_cons ⟨_,_,Tryz.func52,k52⟩ <|
 all_cons ⟨_,_,Tryz.func53,k53⟩ <|
 all_cons ⟨_,_,Tryz.func54,k54⟩ <|
 all_cons ⟨_,_,Tryz.func55,k55⟩ <|
 all_cons ⟨_,_,Tryz.func56,k56⟩ <|
 all_cons ⟨_,_,Tryz.func57,k57⟩ <|
 all_cons ⟨_,_,Tryz.func58,k58⟩ <|
 all_cons ⟨_,_,Tryz.func59,k59⟩ <|
 all_cons ⟨_,_,Tryz.func60,k60⟩ <|
 all_cons ⟨_,_,Tryz.func61,k61⟩ <|
 all_cons ⟨_,_,Tryz.func62,k62⟩ <|
 all_cons ⟨_,_,Tryz.func63,k63⟩ <|
 all_cons ⟨_,_,Tryz.func64,k64⟩ <|
 all_cons ⟨_,_,Tryz.func65,k65⟩ <|
 all_cons ⟨_,_,Tryz.func66,k66⟩ <|
 all_cons ⟨_,_,Tryz.func67,k67⟩ <|
 all_cons ⟨_,_,Tryz.func68,k68⟩ <|
 all_cons ⟨_,_,Tryz.func69,k69⟩ <|
 all_cons ⟨_,_,Tryz.func70,k70⟩ <|
 all_cons ⟨_,_,Tryz.func71,k71⟩ <|
 all_cons ⟨_,_,Tryz.func83,k83⟩ <|
 all_cons ⟨_,_,Tryz.func84,k84⟩ <|
 all_cons ⟨_,_,Tryz.func85,k85⟩ <|
 all_cons ⟨_,_,Tryz.func86,k86⟩ <|
 all_cons ⟨_,_,Tryz.func87,k87⟩ <|
 all_cons ⟨_,_,Tryz.func88,k88⟩ <|
 all_cons ⟨_,_,Tryz.func89,k89⟩ <|
 all_cons ⟨_,_,Tryz.func90,k90⟩ <|
 all_cons ⟨_,_,Tryz.func91,k91⟩ <|
 all_cons ⟨_,_,Tryz.func92,k92⟩ <|
 all_cons ⟨_,_,Tryz.func93,k93⟩ <|
 all_cons ⟨_,_,Tryz.func94,k94⟩ <|
 all_cons ⟨_,_,Tryz.func95,k95⟩ <|
 all_cons ⟨_,_,Tryz.func96,k96⟩ <|
 all_cons ⟨_,_,Tryz.func97,k97⟩ <|
 all_cons ⟨_,_,Tryz.func98,k98⟩ <|
 all_cons ⟨_,_,Tryz.func99,k99⟩ <|
 all_cons ⟨_,_,Tryz.func100,k100⟩ <|
 all_cons ⟨_,_,Tryz.func103,k103⟩ <|
 all_cons ⟨_,_,Tryz.func104,k104⟩ <|
 all_cons ⟨_,_,Tryz.func105,k105⟩ <|
 all_cons ⟨_,_,Tryz.func106,k106⟩ <|
 all_cons ⟨_,_,Tryz.func107,k107⟩ <|
 all_cons ⟨_,_,Tryz.func108,k108⟩ <|
 all_cons ⟨_,_,Tryz.func109,k109⟩ <|
 all_cons ⟨_,_,Tryz.func110,k110⟩ <|
 all_cons ⟨_,_,Tryz.func111,k111⟩ <|
 all_cons ⟨_,_,Tryz.func113,k113⟩ <|
 all_cons ⟨_,_,Tryz.func114,k114⟩ <|
 all_cons ⟨_,_,Tryz.func115,k115⟩ <|
 all_cons ⟨_,_,Tryz.func116,k116⟩ <|
 all_cons ⟨_,_,Tryz.func117,k117⟩ <|
 all_cons ⟨_,_,Tryz.func118,k118⟩ <|
 all_cons ⟨_,_,Tryz.func119,k119⟩ <|
 all_cons ⟨_,_,Tryz.func120,k120⟩ <|
 all_cons ⟨_,_,Tryz.func121,k121⟩ <|
 all_cons ⟨_,_,Tryz.func122,k122⟩ <|
 all_cons ⟨_,_,Tryz.func123,k123⟩ <|
 all_cons ⟨_,_,Tryz.func124,k124⟩ <|
 all_cons ⟨_,_,Tryz.func136,k136⟩ <|
 all_cons ⟨_,_,Tryz.func137,k137⟩ <|
 all_cons ⟨_,_,Tryz.func138,k138⟩ <|
 all_cons ⟨_,_,Tryz.func139,k139⟩ <|
 all_cons ⟨_,_,Tryz.func142,k142⟩ <|
 all_cons ⟨_,_,Tryz.func143,k143⟩ <|
 all_cons ⟨_,_,Tryz.func144,k144⟩ <|
 all_cons ⟨_,_,Tryz.func145,k145⟩ <|
 all_cons ⟨_,_,Tryz.func146,k146⟩ <|
 all_cons ⟨_,_,Tryz.func155,k155⟩ <|
 all_cons ⟨_,_,Tryz.func157,k157⟩ <|
 all_cons ⟨_,_,Tryz.func158,k158⟩ <|
 all_cons ⟨_,_,Tryz.func159,k159⟩ <|
 all_cons ⟨_,_,Tryz.func162,k162⟩ <|
 zlX
theorem gOk:GOk Tryz.prog G :=
 ⟨by kernel_rfl,fun f vf h=>by
  simp only [G,Option.map_eq_some_iff] at h;obtain ⟨p,hp,rfl⟩:=h;have h1:=List.mem_of_find?_eq_some hp;have h2:=List.find?_some hp;simp at h2;have:=zlc p h1;rwa [h2] at this,fun f g ps r h=>by simp [G] at h,fun f xs H r H1 h=>by
  simp only [G] at h
  split at h
  ·rename_i hf;subst hf;exact zi4 ⟨_,Tryz.func65,by kernel_rfl,by kernel_rfl⟩ Tryz.slices_Sort_int h
  ·split at h
   ·rename_i hf2;subst hf2;exact ziL (g:=0) ⟨_,Tryz.func34,by kernel_rfl,by kernel_rfl⟩ (by decide) (fun s o n m w h1 h2 h3 h4=>Tryz.strings_ReplaceAll s o n m w h1 h2 h3 h4) h
   ·simp at h⟩
theorem g4:G.func 4=some c4:=by kernel_rfl
theorem g5:G.func 5=some c5:=by kernel_rfl
theorem g6:G.func 6=some c6:=by kernel_rfl
theorem g7:G.func 7=some c7:=by kernel_rfl
theorem g8:G.func 8=some c8:=by kernel_rfl
theorem g16:G.func 16=some c16:=by kernel_rfl
theorem g17:G.func 17=some c17:=by kernel_rfl
theorem g20:G.func 20=some c20:=by kernel_rfl
theorem g21:G.func 21=some c21:=by kernel_rfl
theorem g22:G.func 22=some c22:=by kernel_rfl
theorem g29:G.func 29=some c29:=by kernel_rfl
theorem g31:G.func 31=some c31:=by kernel_rfl
theorem g32:G.func 32=some c32:=by kernel_rfl
theorem g33:G.func 33=some c33:=by kernel_rfl
theorem g47:G.func 47=some c47:=by kernel_rfl
theorem g48:G.func 48=some c48:=by kernel_rfl
theorem g49:G.func 49=some c49:=by kernel_rfl
theorem g50:G.func 50=some c50:=by kernel_rfl
theorem g51:G.func 51=some c51:=by kernel_rfl
theorem g52:G.func 52=some c52:=by kernel_rfl
theorem g53:G.func 53=some c53:=by kernel_rfl
theorem g54:G.func 54=some c54:=by kernel_rfl
theorem g55:G.func 55=some c55:=by kernel_rfl
theorem g68:G.func 68=some c68:=by kernel_rfl
theorem g69:G.func 69=some c69:=by kernel_rfl
theorem g70:G.func 70=some c70:=by kernel_rfl
theorem g83:G.func 83=some c83:=by kernel_rfl
theorem g84:G.func 84=some c84:=by kernel_rfl
theorem g85:G.func 85=some c85:=by kernel_rfl
theorem g86:G.func 86=some c86:=by kernel_rfl
theorem g87:G.func 87=some c87:=by kernel_rfl
theorem g88:G.func 88=some c88:=by kernel_rfl
theorem g89:G.func 89=some c89:=by kernel_rfl
theorem g90:G.func 90=some c90:=by kernel_rfl
theorem g91:G.func 91=some c91:=by kernel_rfl
theorem g92:G.func 92=some c92:=by kernel_rfl
theorem g93:G.func 93=some c93:=by kernel_rfl
theorem g94:G.func 94=some c94:=by kernel_rfl
theorem g95:G.func 95=some c95:=by kernel_rfl
theorem g96:G.func 96=some c96:=by kernel_rfl
theorem g97:G.func 97=some c97:=by kernel_rfl
theorem g98:G.func 98=some c98:=by kernel_rfl
theorem g113:G.func 113=some c113:=by kernel_rfl
theorem g114:G.func 114=some c114:=by kernel_rfl
theorem g115:G.func 115=some c115:=by kernel_rfl
theorem g116:G.func 116=some c116:=by kernel_rfl
theorem g117:G.func 117=some c117:=by kernel_rfl
theorem g118:G.func 118=some c118:=by kernel_rfl
theorem g119:G.func 119=some c119:=by kernel_rfl
theorem g120:G.func 120=some c120:=by kernel_rfl
theorem g121:G.func 121=some c121:=by kernel_rfl
theorem g122:G.func 122=some c122:=by kernel_rfl
theorem g123:G.func 123=some c123:=by kernel_rfl
theorem g124:G.func 124=some c124:=by kernel_rfl
theorem g145:G.func 145=some c145:=by kernel_rfl
theorem g146:G.func 146=some c146:=by kernel_rfl
theorem g159:G.func 159=some c159:=by kernel_rfl
theorem zx (f:Nat):G.ext f=none:=rfl
set_option linter.unusedSimpArgs false
set_option linter.unusedVariables false
set_option maxHeartbeats 4000000
structure Span where
 lo:Int
 hi:Int
 deriving Inhabited
@[simp] def Span.cells (s:Span):List PV:=[.int .i64 s.lo,.int .i64 s.hi]
@[simp] theorem Span.eta (s:Span):(⟨s.lo,s.hi⟩:Span)=s:=rfl
@[simp] theorem znC (x0:Int) (x1:Int) (P:Span->Prop) {u}:asF Span.cells [.pure (.int .i64 x0),.pure (.int .i64 x1)] P u↔P ⟨x0,x1⟩:=by
 constructor
 ·rintro ⟨a,h,hp⟩;simp [Span.cells] at h;obtain ⟨rfl,rfl⟩:=h;exact hp
 ·intro h;exact ⟨_,rfl,h⟩
@[simp] theorem zmD {l:List Span} {i:Nat} (x0:Int) (x1:Int) (h:i < l.length):zbX (.cells true (zn Span.cells l)) 2 (i*2) [.pure (.int .i64 x0),.pure (.int .i64 x1)]=some (.cells true (zn Span.cells (l.set i ⟨x0,x1⟩))):=zfJ (f:=Span.cells) (a:=⟨x0,x1⟩) (fun _=>rfl) (fun _=>by first|rfl|simp) (by decide) h
structure Box where
 x:Span
 y:Span
 deriving Inhabited
@[simp] def Box.cells (s:Box):List PV:=[.int .i64 s.x.lo,.int .i64 s.x.hi,.int .i64 s.y.lo,.int .i64 s.y.hi]
@[simp] theorem Box.eta (s:Box):(⟨s.x,s.y⟩:Box)=s:=rfl
@[simp] theorem zoJ (x0:Int) (x1:Int) (x2:Int) (x3:Int) (P:Box->Prop) {u}:asF Box.cells [.pure (.int .i64 x0),.pure (.int .i64 x1),.pure (.int .i64 x2),.pure (.int .i64 x3)] P u↔P ⟨⟨x0,x1⟩,⟨x2,x3⟩⟩:=by
 constructor
 ·rintro ⟨a,h,hp⟩;simp [Box.cells] at h;obtain ⟨rfl,rfl,rfl,rfl⟩:=h;exact hp
 ·intro h;exact ⟨_,rfl,h⟩
structure Sight where
 id:Int
 year:Int
 box:Box
 letters:List UInt8
 height:Span
 deriving Inhabited
@[simp] def Sight.cells (s:Sight):List PV:=[.int .i64 s.id,.int .i64 s.year,.int .i64 s.box.x.lo,.int .i64 s.box.x.hi,.int .i64 s.box.y.lo,.int .i64 s.box.y.hi,.str ⟨(s.letters).toArray⟩,.int .i64 s.height.lo,.int .i64 s.height.hi]
@[simp] theorem Sight.eta (s:Sight):(⟨s.id,s.year,s.box,s.letters,s.height⟩:Sight)=s:=rfl
theorem sh51:G.shared 51=false:=by decide
theorem e51 (n:Nat) (a b c:Int):zK G (n+1) 51 [.int .i64 a,.int .i64 b,.int .i64 c]=some (.bool (decide (b<=a)&&decide (a<=c))):=by
 refine zy (zx _) rfl g51 rfl ?_
 (repeat' first|simp [*,ze,c51]|(apply zb<;>intro _ h<;>try simp [-Nat.le_zero_eq] at h))
@[simp] theorem d51 (n:Nat) (H:Heap) (a:Int) (b:Int) (c:Int):zu (zg G (n+1)) H (.pure (.func 51 [])) [.pure (.int .i64 a),.pure (.int .i64 b),.pure (.int .i64 c)]=some (.val (.pure (.bool (decide (b<=a)&&decide (a<=c))))) :=
 zi (ps:=[_,_,_]) (caps:=[]) sh51 (e51 n a b c)
theorem sh94:G.shared 94=false:=by decide
theorem e94 (n:Nat) (a b c:Int):zK G (n+1) 94 [.int .i64 a,.int .i64 b,.int .i64 c]=some (.bool (decide (b<=a)&&decide (a<=c))):=by
 refine zy (zx _) rfl g94 rfl ?_
 (repeat' first|simp [*,ze,c94]|(apply zb<;>intro _ h<;>try simp [-Nat.le_zero_eq] at h))
@[simp] theorem d94 (n:Nat) (H:Heap) (a:Int) (b:Int) (c:Int):zu (zg G (n+1)) H (.pure (.func 94 [])) [.pure (.int .i64 a),.pure (.int .i64 b),.pure (.int .i64 c)]=some (.val (.pure (.bool (decide (b<=a)&&decide (a<=c))))) :=
 zi (ps:=[_,_,_]) (caps:=[]) sh94 (e94 n a b c)
def zgt (s:Span):Bool:=(decide (-1048576<=s.lo)&&decide (s.lo<=1048576))&&(decide (s.lo<=s.hi)&&decide (s.hi<=1048576))
theorem znD:G.shared 124=false:=by decide
theorem e124 (n:Nat) (s:Span):zK G (n+2) 124 [.agg s.cells]=some (.bool (zgt s)):=by
 refine zy (zx _) rfl g124 rfl ?_
 (repeat' first|simp [*,ze,c124,Span.cells,zgt]|(apply zb<;>intro _ h<;>try simp [-Nat.le_zero_eq] at h))
@[simp] theorem d124 (n:Nat) (H:Heap) (s_lo:Int) (s_hi:Int):zu (zg G (n+2)) H (.pure (.func 124 [])) [.pure (.agg [.int .i64 s_lo,.int .i64 s_hi])]=some (.val (.pure ((fun (s:Span)=>.bool (zgt s)) (⟨s_lo,s_hi⟩:Span)))) :=
 zi (ps:=[_]) (caps:=[]) znD (e124 n (⟨s_lo,s_hi⟩:Span))
def zcd (b:Box):Bool:=zgt b.x&&zgt b.y
theorem sh93:G.shared 93=false:=by decide
theorem e93 (n:Nat) (b:Box):zK G (n+3) 93 [.agg b.cells]=some (.bool (zcd b)):=by
 refine zy (zx _) rfl g93 rfl ?_
 (repeat' first|simp [*,ze,c93,Box.cells,zcd]|(apply zb<;>intro _ h<;>try simp [-Nat.le_zero_eq] at h))
@[simp] theorem d93 (n:Nat) (H:Heap) (b_x_lo:Int) (b_x_hi:Int) (b_y_lo:Int) (b_y_hi:Int):zu (zg G (n+3)) H (.pure (.func 93 [])) [.pure (.agg [.int .i64 b_x_lo,.int .i64 b_x_hi,.int .i64 b_y_lo,.int .i64 b_y_hi])]=some (.val (.pure ((fun (b:Box)=>.bool (zcd b)) (⟨⟨b_x_lo,b_x_hi⟩,⟨b_y_lo,b_y_hi⟩⟩:Box)))) :=
 zi (ps:=[_]) (caps:=[]) sh93 (e93 n (⟨⟨b_x_lo,b_x_hi⟩,⟨b_y_lo,b_y_hi⟩⟩:Box))
def zgN (x y:Int):Bool:=(decide (-1048576<=x)&&decide (x<=1048576))&&(decide (-1048576<=y)&&decide (y<=1048576))
def zeO (b:Box):Bool:=zgN b.x.lo b.y.lo&&zgN b.x.hi b.y.hi&&decide (b.x.lo<=b.x.hi)&&decide (b.y.lo<=b.y.hi)
def patC (pts:Bool) (c:UInt8):Bool:=(decide ((65:Int)<=c.toNat)&&decide ((c.toNat:Int)<=90))||(pts&&decide ((c.toNat:Int)=46))
def allC (pts:Bool):List UInt8->Bool
 | []=>true
 | c::r=>patC pts c&&allC pts r
def patS (pts:Bool) (l:List UInt8):Bool:=decide ((1:Int)<=l.length)&&decide ((l.length:Int)<=8)&&allC pts l
theorem zgx {pts:Bool} {l:List UInt8} {i:Nat} (h:i < l.length):allC pts (l.drop i)=(patC pts l[i]&&allC pts (l.drop (i+1))):=by
 rw [List.drop_eq_getElem_cons h,allC]
theorem zkv {pts:Bool} {l:List UInt8} {i:Nat} (h:l.length<=i):allC pts (l.drop i)=true:=by
 rw [List.drop_eq_nil_of_le h,allC]
theorem sh95:G.shared 95=false:=by decide
theorem e95 (n:Nat) (l:List UInt8) (pts:Bool):zK G (n+2) 95 [.str ⟨l.toArray⟩,.bool pts]=some (.bool (patS pts l)):=by
 refine zy (zx _) rfl g95 rfl ?_
 (repeat' first|simp [*,ze,c95]|(apply zb<;>intro _ h<;>try simp [-Nat.le_zero_eq] at h))
 all_goals try (simp [patS, *];done)
 refine zgO (fun (i:Nat) env H=>env 12=.row 0 1 0 l.length/\H.get 0=.cells true (rowB l)/\env 13=.pure (.int .i64 l.length) /\
   env 14=.pure (.int .i64 i)/\env 1=.pure (.bool pts)/\i<=l.length/\patS pts l=allC pts (l.drop i)) (fun i=>l.length - i) 0 ?_ ?_ ?_
 ·simp [ze,Heap.empty,Heap.get,Heap.alloc,patS, *]
 ·simp only [zN];omega
 generalize patS pts l=P;rintro i env H ⟨h12,hH,h13,h14,h15,hi,hall⟩;have hfit:i < 9223372036854775807:=by omega
 (repeat' first|simp [*,ze]|(apply zb<;>intro _ h<;>try simp [-Nat.le_zero_eq] at h))
 all_goals first
  | (refine ⟨i+1,by omega,by simp,by omega,?_⟩;simp [*,zgx,patC];done)
  | (simp [*,zgx,patC];done)
  | (simp [zkv, *];done)
@[simp] theorem d95 (n:Nat) (H:Heap) (l:List UInt8) (pts:Bool):zu (zg G (n+2)) H (.pure (.func 95 [])) [.pure (.str ⟨l.toArray⟩),.pure (.bool pts)]=some (.val (.pure (.bool (patS pts l)))) :=
 zi (ps:=[_,_]) (caps:=[]) sh95 (e95 n l pts)
def patR (l:List UInt8):Bool:=allC true l&&decide ((1:Int)<=l.length)&&decide ((l.length:Int)<=8)
def zad:List UInt8->List UInt8->Option (List UInt8)
 | a::p,b::q=>if (a.toNat:Int)=46 then (zad p q).map (b :: ·) else if ¬ (b.toNat:Int)=46/\¬ (b.toNat:Int)=a.toNat then none else (zad p q).map (a :: ·)
 | _,_=>some []
theorem zcQ {p q:List UInt8} {i:Nat} (hp:i < p.length) (hq:i < q.length):zad (p.drop i) (q.drop i) =
  if (p[i].toNat:Int)=46 then (zad (p.drop (i+1)) (q.drop (i+1))).map (q[i] :: ·) else if ¬ (q[i].toNat:Int)=46/\¬ (q[i].toNat:Int)=p[i].toNat then none else (zad (p.drop (i+1)) (q.drop (i+1))).map (p[i] :: ·):=by
 rw [List.drop_eq_getElem_cons hp,List.drop_eq_getElem_cons hq,zad]
def okB (p q:List UInt8):Bool:=patS true p&&patS true q&&decide ((p.length:Int)=q.length)
def strP (l:List UInt8):PV:=.str ⟨l.toArray⟩
def zbt (p q:List UInt8):PV:=if okB p q=true then (match zad p q with|some r=>.tup [strP r,.bool true]|none=>.tup [strP [],.bool false]) else .tup [strP [],.bool false]
theorem zoe:G.shared 123=false:=by decide
theorem e123 (n:Nat) (p q:List UInt8):zK G (n+3) 123 [.str ⟨p.toArray⟩,.str ⟨q.toArray⟩]=some (zbt p q):=by
 refine zy (zx _) rfl g123 rfl ?_
 (repeat' first|simp [*,ze,c123]|(apply zb<;>intro _ h<;>try simp [-Nat.le_zero_eq] at h))
 all_goals try (simp [zbt,okB, *,strP];done)
 have hS:zbt p q=match zad p q with|some r=>.tup [strP r,.bool true]|none=>.tup [strP [],.bool false]:=by simp [zbt,okB, *]
 have hq:p.length=q.length:=by omega
 have hlen:p.length<=8:=by
   have h8:patS true p=true:=by assumption
   simp [patS] at h8;omega
 refine zgO (fun (d:List UInt8) env H=>env 6=.row 0 1 0 p.length/\H.get 0=.cells true (rowB (d++p.drop d.length))/\env 26=.pure (.int .i64 p.length) /\
   env 27=.pure (.int .i64 d.length)/\env 1=.pure (.str ⟨q.toArray⟩)/\d.length<=p.length/\zad p q=(zad (p.drop d.length) (q.drop d.length)).map (d ++ ·)) (fun d=>p.length - d.length) [] ?_ ?_ ?_
 ·simp [ze,Heap.empty,Heap.get,Heap.alloc, *]
 ·simp only [zN];simp;omega
 have hnone:zad p q=none->zbt p q=.tup [strP [],.bool false]:=fun h=>by rw [hS,h]
 have hsome:∀ r,zad p q=some r->zbt p q=.tup [strP r,.bool true]:=fun r h=>by rw [hS,h]
 clear hS;generalize zbt p q=P at *;have hql:∀ i,i < p.length->i < q.length:=fun i h=>by omega
 rename decide ((p.length:Int)=q.length)=true=>hx1
 rename (p.length:Int)=q.length=>hx2
 clear hq hx1 hx2;rintro d env H ⟨h6,hH,h26,h27,h1,hi,hall⟩;have hfit:d.length < 9223372036854775807:=by omega
 have hnx:=zJ hH;have hget:∀ h,(d++p.drop d.length)[d.length]'h=p[d.length]'(by simp at h;omega):=fun h=>by simp
 have hlq:=hql d.length;have hln:d.length+(p.length - d.length)=p.length:=by omega
 (repeat' first|simp [*,ze]|(apply zb<;>intro _ h<;>try simp [-Nat.le_zero_eq] at h))
 ·have hlt:d.length < p.length:=by assumption
  have hc:(p[d.length].toNat:Int)=46:=by assumption
  refine ⟨d++[q[d.length]'(hlq hlt)],by simp;omega,?_,by simp,by simp;omega,?_⟩
  ·have h9:(p.drop d.length).set 0 (q[d.length]'(hlq hlt))=q[d.length]'(hlq hlt)::p.drop (d.length+1):=by rw [List.drop_eq_getElem_cons hlt,List.set_cons_zero]
   rw [h9];simp
  ·rw [zcQ hlt (hlq hlt),if_pos hc];simp [Function.comp_def]
 ·have hlt:d.length < p.length:=by assumption
  have hc:¬ (p[d.length].toNat:Int)=46:=by assumption
  have hb:(q[d.length]'(hlq hlt)).toNat=(46:Int):=by assumption
  refine ⟨d++[p[d.length]],by simp;omega,?_,by simp,by simp;omega,?_⟩
  ·rw [List.drop_eq_getElem_cons hlt];simp
  ·rw [zcQ hlt (hlq hlt),if_neg hc,if_neg (fun h=>h.1 hb)];simp [Function.comp_def]
 ·have hlt:d.length < p.length:=by assumption
  have hc:¬ (p[d.length].toNat:Int)=46:=by assumption
  have hb:((q[d.length]'(hlq hlt)).toNat:Int)=p[d.length].toNat:=by assumption
  refine ⟨d++[p[d.length]],by simp;omega,?_,by simp,by simp;omega,?_⟩
  ·rw [List.drop_eq_getElem_cons hlt];simp
  ·rw [zcQ hlt (hlq hlt),if_neg hc,if_neg (fun h=>h.2 hb)];simp [Function.comp_def]
 ·have hlt:d.length < p.length:=by assumption
  have hc:¬ (p[d.length].toNat:Int)=46:=by assumption
  have hb:¬ ((q[d.length]'(hlq hlt)).toNat:Int)=46:=by assumption
  have hb2:¬ ((q[d.length]'(hlq hlt)).toNat:Int)=p[d.length].toNat:=by assumption
  rw [hnone (by rw [hall,zcQ hlt (hlq hlt),if_neg hc,if_pos ⟨hb,hb2⟩];rfl)];rfl
 ·have he:d.length=p.length:=by omega
  have h0:p.drop d.length=[]:=List.drop_eq_nil_of_le (by omega);rw [hsome d (by rw [hall,h0];simp [zad])];rw [h0];simp [strP,he]
@[simp] theorem d123 (n:Nat) (H:Heap) (p:List UInt8) (q:List UInt8):zu (zg G (n+3)) H (.pure (.func 123 [])) [.pure (.str ⟨p.toArray⟩),.pure (.str ⟨q.toArray⟩)]=some (.val (.pure (zbt p q))) :=
 zi (ps:=[_,_]) (caps:=[]) zoe (e123 n p q)
theorem sh96:G.shared 96=false:=by decide
theorem e96 (n:Nat) (p q:List UInt8):zK G (n+4) 96 [.str ⟨p.toArray⟩,.str ⟨q.toArray⟩]=some (.bool (okB p q&&(zad p q).isSome)):=by
 refine zy (zx _) rfl g96 rfl ?_
 have hB:zbt p q=.tup [strP ((if okB p q=true then zad p q else none).getD []),.bool (okB p q&&(zad p q).isSome)]:=by
  unfold zbt
  cases okB p q<;>cases zad p q<;>rfl
 (repeat' first|simp [*,ze,c96]|(apply zb<;>intro _ h<;>try simp [-Nat.le_zero_eq] at h))
@[simp] theorem d96 (n:Nat) (H:Heap) (p:List UInt8) (q:List UInt8):zu (zg G (n+4)) H (.pure (.func 96 [])) [.pure (.str ⟨p.toArray⟩),.pure (.str ⟨q.toArray⟩)]=some (.val (.pure (.bool (okB p q&&(zad p q).isSome)))) :=
 zi (ps:=[_,_]) (caps:=[]) sh96 (e96 n p q)
theorem sh50:G.shared 50=false:=by decide
theorem e50 (n:Nat) (l p:List UInt8):zK G (n+5) 50 [.str ⟨l.toArray⟩,.str ⟨p.toArray⟩]=some (.bool (patS false l&&(okB l p&&(zad l p).isSome))):=by
 refine zy (zx _) rfl g50 rfl ?_
 (repeat' first|simp [*,ze,c50]|(apply zb<;>intro _ h<;>try simp [-Nat.le_zero_eq] at h))
@[simp] theorem d50 (n:Nat) (H:Heap) (l:List UInt8) (p:List UInt8):zu (zg G (n+5)) H (.pure (.func 50 [])) [.pure (.str ⟨l.toArray⟩),.pure (.str ⟨p.toArray⟩)]=some (.val (.pure (.bool (patS false l&&(okB l p&&(zad l p).isSome))))) :=
 zi (ps:=[_,_]) (caps:=[]) sh50 (e50 n l p)
def zbY:List UInt8->List UInt8->Bool
 | a::p,b::q=>!(!decide ((a.toNat:Int)=b.toNat) && !decide ((a.toNat:Int)=46) && !decide ((b.toNat:Int)=46))&&zbY p q
 | _,_=>true
def zaE (p q:List UInt8):Bool:=patR p&&patR q&&decide ((p.length:Int)=q.length)&&zbY p q
def zc2:List UInt8->Bool
 | []=>true
 | c::r=>!decide ((c.toNat:Int)=46)&&zc2 r
def mixL:List UInt8->List UInt8->List UInt8
 | a::p,b::q=>(if (a.toNat:Int)=46 then b else a)::mixL p q
 | _,_=>[]
def zdN (h:Span):Bool:=decide (0<=h.lo)&&decide (h.lo<=h.hi)&&decide (h.hi<=100)
def zd8 (s:Sight):Bool:=decide (1<=s.id)&&decide (s.id<=1099511627776)&&(decide (0<=s.year)&&decide (s.year<=4000))&&zcd s.box&&patS true s.letters&&zdN s.height
theorem sh69:G.shared 69=false:=by decide
theorem e69 (n:Nat) (s:Sight):zK G (n+4) 69 [.agg s.cells]=some (.int .i64 (if zd8 s=true then 0 else 1)):=by
 refine zy (zx _) rfl g69 rfl ?_
 (repeat' first|simp [*,ze,c69,Sight.cells]|(apply zb<;>intro _ h<;>try simp [-Nat.le_zero_eq] at h))
 all_goals first
  | (simp [zd8,zdN, *];done)
  | (simp [zd8,zdN, *];omega)
  | skip
@[simp] theorem d69 (n:Nat) (H:Heap) (s_id:Int) (s_year:Int) (s_box_x_lo:Int) (s_box_x_hi:Int) (s_box_y_lo:Int) (s_box_y_hi:Int) (s_letters:List UInt8) (s_height_lo:Int) (s_height_hi:Int):zu (zg G (n+4)) H (.pure (.func 69 [])) [.pure (.agg [.int .i64 s_id,.int .i64 s_year,.int .i64 s_box_x_lo,.int .i64 s_box_x_hi,.int .i64 s_box_y_lo,.int .i64 s_box_y_hi,.str ⟨(s_letters).toArray⟩,.int .i64 s_height_lo,.int .i64 s_height_hi])]=some (.val (.pure ((fun (s:Sight)=>.int .i64 (if zd8 s=true then 0 else 1)) (⟨s_id,s_year,⟨⟨s_box_x_lo,s_box_x_hi⟩,⟨s_box_y_lo,s_box_y_hi⟩⟩,s_letters,⟨s_height_lo,s_height_hi⟩⟩:Sight)))) :=
 zi (ps:=[_]) (caps:=[]) sh69 (e69 n (⟨s_id,s_year,⟨⟨s_box_x_lo,s_box_x_hi⟩,⟨s_box_y_lo,s_box_y_hi⟩⟩,s_letters,⟨s_height_lo,s_height_hi⟩⟩:Sight))
def zcY (s:Sight):Bool:=(decide (1<=s.id)&&decide (s.id<=1099511627776))&&(decide (0<=s.year)&&decide (s.year<=4000))&&zeO s.box&&patR s.letters&&zdN s.height
theorem zgg (l:List UInt8):patS true l=patR l:=by
 simp only [patS,patR]
 cases allC true l<;>simp
theorem zeu (b:Box):zcd b=zeO b:=by
 rw [Bool.eq_iff_iff];simp only [zcd,zeO,zgt,zgN,Bool.and_eq_true,decide_eq_true_eq];omega
theorem zf0 (s:Sight):zd8 s=zcY s:=by
 simp only [zd8,zcY,zgg,zeu]
theorem zdm:∀ (p q:List UInt8),p.length=q.length->(zad p q).isSome=zbY p q/\(zbY p q=true->zad p q=some (mixL p q))
 | [],[],_=>⟨rfl,fun _=>rfl⟩
 | a::p,b::q,h=>by
  obtain ⟨h1,h2⟩:=zdm p q (by simpa using h);simp only [zad,zbY,mixL]
  by_cases ha:(a.toNat:Int)=46
  ·simp only [ha,if_true,Option.isSome_map,h1]
   refine ⟨by simp,fun h3=>?_⟩
   simp at h3;simp [h2 h3]
  ·rw [if_neg ha]
   by_cases hb:¬ (b.toNat:Int)=46/\¬ (b.toNat:Int)=a.toNat
   ·rw [if_pos hb];have:¬ (a.toNat:Int)=b.toNat:=fun e=>hb.2 e.symm;simp [ha,hb.1,this]
   ·rw [if_neg hb];have:((b.toNat:Int)=46)\/((a.toNat:Int)=b.toNat):=by
     rcases Decidable.em ((b.toNat:Int)=46) with h|h
     ·exact .inl h
     ·exact .inr (Decidable.byContradiction fun h'=>hb ⟨h,fun e=>h' e.symm⟩)
    have hz:(!(!decide ((a.toNat:Int)=b.toNat) && !decide ((a.toNat:Int)=46) && !decide ((b.toNat:Int)=46)))=true:=by
     rcases this with h|h<;>simp [h]
    rw [hz]
    refine ⟨by simp [h1],fun h3=>?_⟩
    simp at h3;simp [h2 h3,ha]
 | [],b::q,h=>by simp at h
 | a::p,[],h=>by simp at h
theorem zft (p q:List UInt8):(okB p q&&(zad p q).isSome)=zaE p q:=by
 simp only [okB,zaE,zgg]
 by_cases h:(p.length:Int)=q.length
 ·rw [(zdm p q (by omega)).1]
 ·simp [h]
theorem zjb (p q:List UInt8):zbt p q=.tup [strP (if zaE p q=true then mixL p q else []),.bool (zaE p q)]:=by
 rw [<- zft];unfold zbt
 cases ho:okB p q with
 | false=>simp
 | true =>
  have hl:p.length=q.length:=by simp [okB] at ho;omega
  obtain ⟨h1,h2⟩:=zdm p q hl
  cases hb:zad p q with
  | none=>simp
  | some r =>
   have:zbY p q=true:=by rw [<- h1,hb];rfl
   have:=h2 this;rw [hb] at this;simp at this;simp [this]
theorem ziy (l:List UInt8):allC false l=(allC true l&&zc2 l):=by
 induction l with
 | nil=>rfl
 | cons c l ih =>
  simp only [allC,zc2,ih,patC];rw [Bool.eq_iff_iff];simp only [Bool.and_eq_true,Bool.or_eq_true,decide_eq_true_eq,Bool.not_eq_true',decide_eq_false_iff_not,Bool.false_eq_true,false_and,or_false,true_and]
  constructor
  ·rintro ⟨h1,h2,h3⟩;exact ⟨⟨.inl h1,h2⟩,by omega,h3⟩
  ·rintro ⟨⟨h1,h2⟩,h3,h4⟩;rcases h1 with h1|h1
   ·exact ⟨h1,h2,h4⟩
   ·exact absurd h1 h3
theorem zi2 (l p:List UInt8):(patS false l&&(okB l p&&(zad l p).isSome))=(zc2 l&&zaE l p):=by
 rw [zft];simp only [patS,ziy,zaE,patR]
 cases zc2 l<;>cases allC true l<;>simp
 omega
end Go.Proofs.YtifmedfpnnfmoaaGreatDoor.Vm
