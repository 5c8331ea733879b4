/- The program for the machine: a table of its code, and that all of it is what the compiler makes. What the functions of patterns and sights compute: the program's, and the specification's. -/
import Derived.Test.YtifmedfpnnfmoaaGreatDoorBk10
import Derived.Test.YtifmedfpnnfmoaaGreatDoorBk11
import Derived.Test.YtifmedfpnnfmoaaGreatDoorBk12
import Derived.Test.YtifmedfpnnfmoaaGreatDoorBk13
import Derived.Test.YtifmedfpnnfmoaaGreatDoorBk14
import Derived.Test.YtifmedfpnnfmoaaGreatDoorBk7
import Derived.Test.YtifmedfpnnfmoaaGreatDoorBk8
namespace Go.Proofs.YtifmedfpnnfmoaaGreatDoor.Vm
open Go
def table:List (Nat×VFunc):=[(3,c3),(5,c5),(6,c6),(7,c7),(8,c8),(9,c9),(10,c10),(11,c11),(12,c12),(13,c13),(14,c14),(15,c15),(16,c16),(18,c18),(19,c19),(20,c20),(21,c21),(22,c22),(23,c23),(24,c24),(25,c25),(26,c26),(27,c27),(28,c28),(29,c29),(30,c30),(31,c31),(32,c32),(33,c33),(34,c34),(35,c35),(36,c36),(37,c37),(38,c38),(39,c39),(40,c40),(41,c41),(42,c42),(43,c43),(44,c44),(45,c45),(46,c46),(47,c47),(48,c48),(51,c51),(53,c53),(54,c54),(55,c55),(56,c56),(57,c57),(58,c58),(59,c59),(60,c60),(61,c61),(62,c62),(63,c63),(64,c64),(65,c65),(66,c66),(67,c67),(68,c68),(69,c69),(70,c70),(71,c71),(72,c72),(73,c73),(74,c74),(75,c75),(76,c76),(77,c77),(78,c78),(79,c79),(80,c80),(81,c81),(82,c82),(83,c83),(84,c84),(85,c85),(86,c86),(87,c87),(88,c88),(89,c89),(90,c90),(91,c91),(92,c92),(93,c93),(94,c94),(95,c95),(96,c96),(98,c98),(99,c99),(100,c100),(103,c103),(104,c104),(105,c105),(106,c106),(107,c107),(108,c108),(109,c109),(110,c110),(111,c111),(112,c112),(113,c113),(114,c114),(115,c115),(116,c116),(117,c117),(118,c118),(119,c119),(120,c120),(121,c121),(122,c122),(123,c123),(124,c124),(136,c136),(137,c137),(138,c138),(139,c139),(142,c142),(143,c143),(144,c144),(145,c145),(146,c146),(155,c155),(157,c157),(158,c158),(159,c159),(162,c162)]
def sharedL:List Nat:=[32,60,61,63,64,65,70,99,101,125,126,127,128,129,130,132,133,136,147,149,150,151,160]
def G:Prog:={ func:=fun f=>(table.find? (fun p=>p.1 == f)).map (·.2),shared:=fun f=>sharedL.contains f,ext:=fun _=>none,extRun:=fun f xs H=>if f=65 then zds xs H else if f=34 then zer xs H else none }
theorem zmL {α:Type} {p:α->Prop}:∀ a∈([]:List α),p a:=fun a h=>by simp at h
theorem all_cons {α:Type} {p:α->Prop} {a:α} {l:List α} (h:p a) (hs:∀ b∈l,p b):∀ b∈a::l,p b:=fun b hb=>by
 rcases List.mem_cons.1 hb with rfl|h1
 ·exact h
 ·exact hs b h1
theorem zlU:∀ p∈table,∃ fn Z,Tryz.prog.funcs[p.1]?=some fn/\ze Tryz.prog Z fn=some p.2 :=
 all_cons ⟨_,_,Tryz.func3,k3⟩ <|
 all_cons ⟨_,_,Tryz.func5,k5⟩ <|
 all_cons ⟨_,_,Tryz.func6,k6⟩ <|
 all_cons ⟨_,_,Tryz.func7,k7⟩ <|
 all_cons ⟨_,_,Tryz.func8,k8⟩ <|
 all_cons ⟨_,_,Tryz.func9,k9⟩ <|
 all_cons ⟨_,_,Tryz.func10,k10⟩ <|
 all_cons ⟨_,_,Tryz.func11,k11⟩ <|
 all_cons ⟨_,_,Tryz.func12,k12⟩ <|
 all_cons ⟨_,_,Tryz.func13,k13⟩ <|
 all_cons ⟨_,_,Tryz.func14,k14⟩ <|
 all_cons ⟨_,_,Tryz.func15,k15⟩ <|
 all_cons ⟨_,_,Tryz.func16,k16⟩ <|
 all_cons ⟨_,_,Tryz.func18,k18⟩ <|
 all_cons ⟨_,_,Tryz.func19,k19⟩ <|
 all_cons ⟨_,_,Tryz.func20,k20⟩ <|
 all_cons ⟨_,_,Tryz.func21,k21⟩ <|
 all_cons ⟨_,_,Tryz.func22,k22⟩ <|
 all_cons ⟨_,_,Tryz.func23,k23⟩ <|
 all_cons ⟨_,_,Tryz.func24,k24⟩ <|
 all_cons ⟨_,_,Tryz.func25,k25⟩ <|
 all_cons ⟨_,_,Tryz.func26,k26⟩ <|
 all_cons ⟨_,_,Tryz.func27,k27⟩ <|
 all_cons ⟨_,_,Tryz.func28,k28⟩ <|
 all_cons ⟨_,_,Tryz.func29,k29⟩ <|
 all_cons ⟨_,_,Tryz.func30,k30⟩ <|
 all_cons ⟨_,_,Tryz.func31,k31⟩ <|
 all_cons ⟨_,_,Tryz.func32,k32⟩ <|
 all_cons ⟨_,_,Tryz.func33,k33⟩ <|
 all_cons ⟨_,_,Tryz.func34,k34⟩ <|
 all_cons ⟨_,_,Tryz.func35,k35⟩ <|
 all_cons ⟨_,_,Tryz.func36,k36⟩ <|
 all_cons ⟨_,_,Tryz.func37,k37⟩ <|
 all_cons ⟨_,_,Tryz.func38,k38⟩ <|
 all_cons ⟨_,_,Tryz.func39,k39⟩ <|
 all_cons ⟨_,_,Tryz.func40,k40⟩ <|
 all_cons ⟨_,_,Tryz.func41,k41⟩ <|
 all_cons ⟨_,_,Tryz.func42,k42⟩ <|
 all_cons ⟨_,_,Tryz.func43,k43⟩ <|
 all_cons ⟨_,_,Tryz.func44,k44⟩ <|
 all_cons ⟨_,_,Tryz.func45,k45⟩ <|
 all_cons ⟨_,_,Tryz.func46,k46⟩ <|
 all_cons ⟨_,_,Tryz.func47,k47⟩ <|
 all_cons ⟨_,_,Tryz.func48,k48⟩ <|
 all_cons ⟨_,_,Tryz.func51,k51⟩ <|
 all_cons ⟨_,_,Tryz.func53,k53⟩ <|
 all_cons ⟨_,_,Tryz.func54,k54⟩ <|
 all_cons ⟨_,_,Tryz.func55,k55⟩ <|
 all_cons ⟨_,_,Tryz.func56,k56⟩ <|
 all_cons ⟨_,_,Tryz.func57,k57⟩ <|
 all_cons ⟨_,_,Tryz.func58,k58⟩ <|
 all_cons ⟨_,_,Tryz.func59,k59⟩ <|
 all_cons ⟨_,_,Tryz.func60,k60⟩ <|
 all_cons ⟨_,_,Tryz.func61,k61⟩ <|
 all_cons ⟨_,_,Tryz.func62,k62⟩ <|
 all_cons ⟨_,_,Tryz.func63,k63⟩ <|
 all_cons ⟨_,_,Tryz.func64,k64⟩ <|
 all_cons ⟨_,_,Tryz.func65,k65⟩ <|
 all_cons ⟨_,_,Tryz.func66,k66⟩ <|
 all_cons ⟨_,_,Tryz.func67,k67⟩ <|
 all_cons ⟨_,_,Tryz.func68,k68⟩ <|
 all_cons ⟨_,_,Tryz.func69,k69⟩ <|
 all_cons ⟨_,_,Tryz.func70,k70⟩ <|
 all_cons ⟨_,_,Tryz.func71,k71⟩ <|
 all_cons ⟨_,_,Tryz.func72,k72⟩ <|
 all_cons ⟨_,_,Tryz.func73,k73⟩ <|
 all_cons ⟨_,_,Tryz.func74,k74⟩ <|
 all_cons ⟨_,_,Tryz.func75,k75⟩ <|
 all_cons ⟨_,_,Tryz.func76,k76⟩ <|
 all_cons ⟨_,_,Tryz.func77,k77⟩ <|
 all_cons ⟨_,_,Tryz.func78,k78⟩ <|
 all_cons ⟨_,_,Tryz.func79,k79⟩ <|
 all_cons ⟨_,_,Tryz.func80,k80⟩ <|
 all_cons ⟨_,_,Tryz.func81,k81⟩ <|
 all_cons ⟨_,_,Tryz.func82,k82⟩ <|
 all_cons ⟨_,_,Tryz.func83,k83⟩ <|
 all_cons ⟨_,_,Tryz.func84,k84⟩ <|
 all_cons ⟨_,_,Tryz.func85,k85⟩ <|
 all_cons ⟨_,_,Tryz.func86,k86⟩ <|
 all_cons ⟨_,_,Tryz.func87,k87⟩ <|
 all_cons ⟨_,_,Tryz.func88,k88⟩ <|
 all_cons ⟨_,_,Tryz.func89,k89⟩ <|
 all_cons ⟨_,_,Tryz.func90,k90⟩ <|
 all_cons ⟨_,_,Tryz.func91,k91⟩ <|
 all_cons ⟨_,_,Tryz.func92,k92⟩ <|
 all_cons ⟨_,_,Tryz.func93,k93⟩ <|
 all_cons ⟨_,_,Tryz.func94,k94⟩ <|
 all_cons ⟨_,_,Tryz.func95,k95⟩ <|
 all_cons ⟨_,_,Tryz.func96,k96⟩ <|
 all_cons ⟨_,_,Tryz.func98,k98⟩ <|
 all_cons ⟨_,_,Tryz.func99,k99⟩ <|
 all_cons ⟨_,_,Tryz.func100,k100⟩ <|
 all_cons ⟨_,_,Tryz.func103,k103⟩ <|
 all_cons ⟨_,_,Tryz.func104,k104⟩ <|
 all_cons ⟨_,_,Tryz.func105,k105⟩ <|
 all_cons ⟨_,_,Tryz.func106,k106⟩ <|
 all_cons ⟨_,_,Tryz.func107,k107⟩ <|
 all_cons ⟨_,_,Tryz.func108,k108⟩ <|
 all_cons ⟨_,_,Tryz.func109,k109⟩ <|
 all_cons ⟨_,_,Tryz.func110,k110⟩ <|
 all_cons ⟨_,_,Tryz.func111,k111⟩ <|
 all_cons ⟨_,_,Tryz.func112,k112⟩ <|
 all_cons ⟨_,_,Tryz.func113,k113⟩ <|
 all_cons ⟨_,_,Tryz.func114,k114⟩ <|
 all_cons ⟨_,_,Tryz.func115,k115⟩ <|
 all_cons ⟨_,_,Tryz.func116,k116⟩ <|
 all_cons ⟨_,_,Tryz.func117,k117⟩ <|
 all_cons ⟨_,_,Tryz.func118,k118⟩ <|
 all_cons ⟨_,_,Tryz.func119,k119⟩ <|
 all_cons ⟨_,_,Tryz.func120,k120⟩ <|
 all_cons ⟨_,_,Tryz.func121,k121⟩ <|
 all_cons ⟨_,_,Tryz.func122,k122⟩ <|
 all_cons ⟨_,_,Tryz.func123,k123⟩ <|
 all_cons ⟨_,_,Tryz.func124,k124⟩ <|
 all_cons ⟨_,_,Tryz.func136,k136⟩ <|
 all_cons ⟨_,_,Tryz.func137,k137⟩ <|
 all_cons ⟨_,_,Tryz.func138,k138⟩ <|
 all_cons ⟨_,_,Tryz.func139,k139⟩ <|
 all_cons ⟨_,_,Tryz.func142,k142⟩ <|
 all_cons ⟨_,_,Tryz.func143,k143⟩ <|
 all_cons ⟨_,_,Tryz.func144,k144⟩ <|
 all_cons ⟨_,_,Tryz.func145,k145⟩ <|
 all_cons ⟨_,_,Tryz.func146,k146⟩ <|
 all_cons ⟨_,_,Tryz.func155,k155⟩ <|
 all_cons ⟨_,_,Tryz.func157,k157⟩ <|
 all_cons ⟨_,_,Tryz.func158,k158⟩ <|
 all_cons ⟨_,_,Tryz.func159,k159⟩ <|
 all_cons ⟨_,_,Tryz.func162,k162⟩ <|
 zmL
theorem gOk:GOk Tryz.prog G :=
 ⟨by kernel_rfl,fun f vf h=>by
  simp only [G,Option.map_eq_some_iff] at h;obtain ⟨p,hp,rfl⟩:=h;have h1:=List.mem_of_find?_eq_some hp;have h2:=List.find?_some hp;simp at h2;have:=zlU p h1;rwa [h2] at this,fun f g ps r h=>by simp [G] at h,fun f xs H r H1 h=>by
  simp only [G] at h
  split at h
  ·rename_i hf;subst hf;exact zjq ⟨_,Tryz.func65,by kernel_rfl,by kernel_rfl⟩ Tryz.slices_Sort_int h
  ·split at h
   ·rename_i hf2;subst hf2;exact zjx (g:=0) ⟨_,Tryz.func34,by kernel_rfl,by kernel_rfl⟩ (by decide) (fun s o n m w h1 h2 h3 h4=>Tryz.strings_ReplaceAll s o n m w h1 h2 h3 h4) h
   ·simp at h⟩
theorem g3:G.func 3=some c3:=by kernel_rfl
theorem g5:G.func 5=some c5:=by kernel_rfl
theorem g6:G.func 6=some c6:=by kernel_rfl
theorem g7:G.func 7=some c7:=by kernel_rfl
theorem g8:G.func 8=some c8:=by kernel_rfl
theorem g9:G.func 9=some c9:=by kernel_rfl
theorem g10:G.func 10=some c10:=by kernel_rfl
theorem g11:G.func 11=some c11:=by kernel_rfl
theorem g12:G.func 12=some c12:=by kernel_rfl
theorem g13:G.func 13=some c13:=by kernel_rfl
theorem g14:G.func 14=some c14:=by kernel_rfl
theorem g15:G.func 15=some c15:=by kernel_rfl
theorem g20:G.func 20=some c20:=by kernel_rfl
theorem g21:G.func 21=some c21:=by kernel_rfl
theorem g22:G.func 22=some c22:=by kernel_rfl
theorem g29:G.func 29=some c29:=by kernel_rfl
theorem g30:G.func 30=some c30:=by kernel_rfl
theorem g31:G.func 31=some c31:=by kernel_rfl
theorem g32:G.func 32=some c32:=by kernel_rfl
theorem g33:G.func 33=some c33:=by kernel_rfl
theorem g35:G.func 35=some c35:=by kernel_rfl
theorem g36:G.func 36=some c36:=by kernel_rfl
theorem g37:G.func 37=some c37:=by kernel_rfl
theorem g38:G.func 38=some c38:=by kernel_rfl
theorem g39:G.func 39=some c39:=by kernel_rfl
theorem g40:G.func 40=some c40:=by kernel_rfl
theorem g41:G.func 41=some c41:=by kernel_rfl
theorem g42:G.func 42=some c42:=by kernel_rfl
theorem g43:G.func 43=some c43:=by kernel_rfl
theorem g44:G.func 44=some c44:=by kernel_rfl
theorem g45:G.func 45=some c45:=by kernel_rfl
theorem g46:G.func 46=some c46:=by kernel_rfl
theorem g47:G.func 47=some c47:=by kernel_rfl
theorem g48:G.func 48=some c48:=by kernel_rfl
theorem g51:G.func 51=some c51:=by kernel_rfl
theorem g53:G.func 53=some c53:=by kernel_rfl
theorem g54:G.func 54=some c54:=by kernel_rfl
theorem g55:G.func 55=some c55:=by kernel_rfl
theorem g68:G.func 68=some c68:=by kernel_rfl
theorem g69:G.func 69=some c69:=by kernel_rfl
theorem g70:G.func 70=some c70:=by kernel_rfl
theorem g72:G.func 72=some c72:=by kernel_rfl
theorem g73:G.func 73=some c73:=by kernel_rfl
theorem g74:G.func 74=some c74:=by kernel_rfl
theorem g75:G.func 75=some c75:=by kernel_rfl
theorem g76:G.func 76=some c76:=by kernel_rfl
theorem g77:G.func 77=some c77:=by kernel_rfl
theorem g78:G.func 78=some c78:=by kernel_rfl
theorem g79:G.func 79=some c79:=by kernel_rfl
theorem g80:G.func 80=some c80:=by kernel_rfl
theorem g81:G.func 81=some c81:=by kernel_rfl
theorem g82:G.func 82=some c82:=by kernel_rfl
theorem g83:G.func 83=some c83:=by kernel_rfl
theorem g84:G.func 84=some c84:=by kernel_rfl
theorem g85:G.func 85=some c85:=by kernel_rfl
theorem g86:G.func 86=some c86:=by kernel_rfl
theorem g87:G.func 87=some c87:=by kernel_rfl
theorem g88:G.func 88=some c88:=by kernel_rfl
theorem g89:G.func 89=some c89:=by kernel_rfl
theorem g90:G.func 90=some c90:=by kernel_rfl
theorem g91:G.func 91=some c91:=by kernel_rfl
theorem g92:G.func 92=some c92:=by kernel_rfl
theorem g93:G.func 93=some c93:=by kernel_rfl
theorem g94:G.func 94=some c94:=by kernel_rfl
theorem g95:G.func 95=some c95:=by kernel_rfl
theorem g98:G.func 98=some c98:=by kernel_rfl
theorem g112:G.func 112=some c112:=by kernel_rfl
theorem g113:G.func 113=some c113:=by kernel_rfl
theorem g114:G.func 114=some c114:=by kernel_rfl
theorem g115:G.func 115=some c115:=by kernel_rfl
theorem g116:G.func 116=some c116:=by kernel_rfl
theorem g117:G.func 117=some c117:=by kernel_rfl
theorem g118:G.func 118=some c118:=by kernel_rfl
theorem g119:G.func 119=some c119:=by kernel_rfl
theorem g120:G.func 120=some c120:=by kernel_rfl
theorem g121:G.func 121=some c121:=by kernel_rfl
theorem g122:G.func 122=some c122:=by kernel_rfl
theorem g123:G.func 123=some c123:=by kernel_rfl
theorem g124:G.func 124=some c124:=by kernel_rfl
theorem g145:G.func 145=some c145:=by kernel_rfl
theorem g146:G.func 146=some c146:=by kernel_rfl
theorem g159:G.func 159=some c159:=by kernel_rfl
theorem zm (f:Nat):G.ext f=none:=rfl
set_option linter.unusedSimpArgs false
set_option linter.unusedVariables false
set_option maxHeartbeats 4000000
structure Span where
 lo:Int
 hi:Int
 deriving Inhabited
@[simp] def Span.cells (s:Span):List PV:=[.int .i64 s.lo,.int .i64 s.hi]
@[simp] theorem Span.eta (s:Span):(⟨s.lo,s.hi⟩:Span)=s:=rfl
@[simp] theorem zoJ (x0:Int) (x1:Int) (P:Span->Prop) {u}:asF Span.cells [.pure (.int .i64 x0),.pure (.int .i64 x1)] P u↔P ⟨x0,x1⟩:=by
 constructor
 ·rintro ⟨a,h,hp⟩;simp [Span.cells] at h;obtain ⟨rfl,rfl⟩:=h;exact hp
 ·intro h;exact ⟨_,rfl,h⟩
@[simp] theorem znK {l:List Span} {i:Nat} (x0:Int) (x1:Int) (h:i < l.length):zcy (.cells true (zx Span.cells l)) 2 (i*2) [.pure (.int .i64 x0),.pure (.int .i64 x1)]=some (.cells true (zx Span.cells (l.set i ⟨x0,x1⟩))):=zgi (f:=Span.cells) (a:=⟨x0,x1⟩) (fun _=>rfl) (fun _=>by first|rfl|simp) (by decide) h
structure Box where
 x:Span
 y:Span
 deriving Inhabited
@[simp] def Box.cells (s:Box):List PV:=[.int .i64 s.x.lo,.int .i64 s.x.hi,.int .i64 s.y.lo,.int .i64 s.y.hi]
@[simp] theorem Box.eta (s:Box):(⟨s.x,s.y⟩:Box)=s:=rfl
@[simp] theorem zpI (x0:Int) (x1:Int) (x2:Int) (x3:Int) (P:Box->Prop) {u}:asF Box.cells [.pure (.int .i64 x0),.pure (.int .i64 x1),.pure (.int .i64 x2),.pure (.int .i64 x3)] P u↔P ⟨⟨x0,x1⟩,⟨x2,x3⟩⟩:=by
 constructor
 ·rintro ⟨a,h,hp⟩;simp [Box.cells] at h;obtain ⟨rfl,rfl,rfl,rfl⟩:=h;exact hp
 ·intro h;exact ⟨_,rfl,h⟩
structure Sight where
 id:Int
 year:Int
 box:Box
 letters:List UInt8
 height:Span
 deriving Inhabited
@[simp] def Sight.cells (s:Sight):List PV:=[.int .i64 s.id,.int .i64 s.year,.int .i64 s.box.x.lo,.int .i64 s.box.x.hi,.int .i64 s.box.y.lo,.int .i64 s.box.y.hi,.str ⟨(s.letters).toArray⟩,.int .i64 s.height.lo,.int .i64 s.height.hi]
@[simp] theorem Sight.eta (s:Sight):(⟨s.id,s.year,s.box,s.letters,s.height⟩:Sight)=s:=rfl
theorem sh51:G.shared 51=false:=by decide
theorem e51 (n:Nat) (a b c:Int):zD G (n+1) 51 [.int .i64 a,.int .i64 b,.int .i64 c]=some (.bool (decide (b<=a)&&decide (a<=c))):=by
 refine zo (zm _) rfl g51 rfl ?_
 (repeat' first|simp [*,zb,c51]|(apply za<;>intro _ h<;>try simp [-Nat.le_zero_eq] at h))
@[simp] theorem d51 (n:Nat) (H:Heap) (a:Int) (b:Int) (c:Int):zn (zg G (n+1)) H (.pure (.func 51 [])) [.pure (.int .i64 a),.pure (.int .i64 b),.pure (.int .i64 c)]=some (.val (.pure (.bool (decide (b<=a)&&decide (a<=c))))) :=
 zh (ps:=[_,_,_]) (caps:=[]) sh51 (e51 n a b c)
theorem sh94:G.shared 94=false:=by decide
theorem e94 (n:Nat) (a b c:Int):zD G (n+1) 94 [.int .i64 a,.int .i64 b,.int .i64 c]=some (.bool (decide (b<=a)&&decide (a<=c))):=by
 refine zo (zm _) rfl g94 rfl ?_
 (repeat' first|simp [*,zb,c94]|(apply za<;>intro _ h<;>try simp [-Nat.le_zero_eq] at h))
@[simp] theorem d94 (n:Nat) (H:Heap) (a:Int) (b:Int) (c:Int):zn (zg G (n+1)) H (.pure (.func 94 [])) [.pure (.int .i64 a),.pure (.int .i64 b),.pure (.int .i64 c)]=some (.val (.pure (.bool (decide (b<=a)&&decide (a<=c))))) :=
 zh (ps:=[_,_,_]) (caps:=[]) sh94 (e94 n a b c)
theorem sh41:G.shared 41=false:=by decide
theorem e41 (n:Nat) (a b c:Int):zD G (n+1) 41 [.int .i64 a,.int .i64 b,.int .i64 c]=some (.bool (decide (b<=a)&&decide (a<=c))):=by
 refine zo (zm _) rfl g41 rfl ?_
 (repeat' first|simp [*,zb,c41]|(apply za<;>intro _ h<;>try simp [-Nat.le_zero_eq] at h))
@[simp] theorem d41 (n:Nat) (H:Heap) (a:Int) (b:Int) (c:Int):zn (zg G (n+1)) H (.pure (.func 41 [])) [.pure (.int .i64 a),.pure (.int .i64 b),.pure (.int .i64 c)]=some (.val (.pure (.bool (decide (b<=a)&&decide (a<=c))))) :=
 zh (ps:=[_,_,_]) (caps:=[]) sh41 (e41 n a b c)
theorem sh81:G.shared 81=false:=by decide
theorem e81 (n:Nat) (a b c:Int):zD G (n+1) 81 [.int .i64 a,.int .i64 b,.int .i64 c]=some (.bool (decide (b<=a)&&decide (a<=c))):=by
 refine zo (zm _) rfl g81 rfl ?_
 (repeat' first|simp [*,zb,c81]|(apply za<;>intro _ h<;>try simp [-Nat.le_zero_eq] at h))
@[simp] theorem d81 (n:Nat) (H:Heap) (a:Int) (b:Int) (c:Int):zn (zg G (n+1)) H (.pure (.func 81 [])) [.pure (.int .i64 a),.pure (.int .i64 b),.pure (.int .i64 c)]=some (.val (.pure (.bool (decide (b<=a)&&decide (a<=c))))) :=
 zh (ps:=[_,_,_]) (caps:=[]) sh81 (e81 n a b c)
def zg4 (s:Span):Bool:=(decide (-1048576<=s.lo)&&decide (s.lo<=1048576))&&(decide (s.lo<=s.hi)&&decide (s.hi<=1048576))
theorem zoB:G.shared 124=false:=by decide
theorem e124 (n:Nat) (s:Span):zD G (n+2) 124 [.agg s.cells]=some (.bool (zg4 s)):=by
 refine zo (zm _) rfl g124 rfl ?_
 (repeat' first|simp [*,zb,c124,Span.cells,zg4]|(apply za<;>intro _ h<;>try simp [-Nat.le_zero_eq] at h))
@[simp] theorem d124 (n:Nat) (H:Heap) (s_lo:Int) (s_hi:Int):zn (zg G (n+2)) H (.pure (.func 124 [])) [.pure (.agg [.int .i64 s_lo,.int .i64 s_hi])]=some (.val (.pure ((fun (s:Span)=>.bool (zg4 s)) (⟨s_lo,s_hi⟩:Span)))) :=
 zh (ps:=[_]) (caps:=[]) zoB (e124 n (⟨s_lo,s_hi⟩:Span))
def zcS (b:Box):Bool:=zg4 b.x&&zg4 b.y
theorem sh93:G.shared 93=false:=by decide
theorem e93 (n:Nat) (b:Box):zD G (n+3) 93 [.agg b.cells]=some (.bool (zcS b)):=by
 refine zo (zm _) rfl g93 rfl ?_
 (repeat' first|simp [*,zb,c93,Box.cells,zcS]|(apply za<;>intro _ h<;>try simp [-Nat.le_zero_eq] at h))
@[simp] theorem d93 (n:Nat) (H:Heap) (b_x_lo:Int) (b_x_hi:Int) (b_y_lo:Int) (b_y_hi:Int):zn (zg G (n+3)) H (.pure (.func 93 [])) [.pure (.agg [.int .i64 b_x_lo,.int .i64 b_x_hi,.int .i64 b_y_lo,.int .i64 b_y_hi])]=some (.val (.pure ((fun (b:Box)=>.bool (zcS b)) (⟨⟨b_x_lo,b_x_hi⟩,⟨b_y_lo,b_y_hi⟩⟩:Box)))) :=
 zh (ps:=[_]) (caps:=[]) sh93 (e93 n (⟨⟨b_x_lo,b_x_hi⟩,⟨b_y_lo,b_y_hi⟩⟩:Box))
def zem (x y:Int):Bool:=(decide (-1048576<=x)&&decide (x<=1048576))&&(decide (-1048576<=y)&&decide (y<=1048576))
theorem zo7:G.shared 112=false:=by decide
theorem e112 (n:Nat) (x y:Int):zD G (n+2) 112 [.agg [.int .i64 x,.int .i64 y]]=some (.bool (zem x y)):=by
 refine zo (zm _) rfl g112 rfl ?_
 (repeat' first|simp [*,zb,c112,zem]|(apply za<;>intro _ h<;>try simp [-Nat.le_zero_eq] at h))
@[simp] theorem d112 (n:Nat) (H:Heap) (x:Int) (y:Int):zn (zg G (n+2)) H (.pure (.func 112 [])) [.pure (.agg [.int .i64 x,.int .i64 y])]=some (.val (.pure (.bool (zem x y)))) :=
 zh (ps:=[_]) (caps:=[]) zo7 (e112 n x y)
def zdb (b:Box):Bool:=zem b.x.lo b.y.lo&&zem b.x.hi b.y.hi&&decide (b.x.lo<=b.x.hi)&&decide (b.y.lo<=b.y.hi)
theorem sh77:G.shared 77=false:=by decide
theorem e77 (n:Nat) (b:Box):zD G (n+3) 77 [.agg b.cells]=some (.bool (zdb b)):=by
 refine zo (zm _) rfl g77 rfl ?_
 (repeat' first|simp [*,zb,c77,Box.cells,zdb]|(apply za<;>intro _ h<;>try simp [-Nat.le_zero_eq] at h))
@[simp] theorem d77 (n:Nat) (H:Heap) (b_x_lo:Int) (b_x_hi:Int) (b_y_lo:Int) (b_y_hi:Int):zn (zg G (n+3)) H (.pure (.func 77 [])) [.pure (.agg [.int .i64 b_x_lo,.int .i64 b_x_hi,.int .i64 b_y_lo,.int .i64 b_y_hi])]=some (.val (.pure ((fun (b:Box)=>.bool (zdb b)) (⟨⟨b_x_lo,b_x_hi⟩,⟨b_y_lo,b_y_hi⟩⟩:Box)))) :=
 zh (ps:=[_]) (caps:=[]) sh77 (e77 n (⟨⟨b_x_lo,b_x_hi⟩,⟨b_y_lo,b_y_hi⟩⟩:Box))
def patC (pts:Bool) (c:UInt8):Bool:=(decide ((65:Int)<=c.toNat)&&decide ((c.toNat:Int)<=90))||(pts&&decide ((c.toNat:Int)=46))
def allC (pts:Bool):List UInt8->Bool
 | []=>true
 | c::r=>patC pts c&&allC pts r
def patS (pts:Bool) (l:List UInt8):Bool:=decide ((1:Int)<=l.length)&&decide ((l.length:Int)<=8)&&allC pts l
theorem zc5 {pts:Bool} {l:List UInt8} {i:Nat} (h:i < l.length):allC pts (l.drop i)=(patC pts l[i]&&allC pts (l.drop (i+1))):=by
 rw [List.drop_eq_getElem_cons h,allC]
theorem ziw {pts:Bool} {l:List UInt8} {i:Nat} (h:l.length<=i):allC pts (l.drop i)=true:=by
 rw [List.drop_eq_nil_of_le h,allC]
theorem sh95:G.shared 95=false:=by decide
theorem e95 (n:Nat) (l:List UInt8) (pts:Bool):zD G (n+2) 95 [.str ⟨l.toArray⟩,.bool pts]=some (.bool (patS pts l)):=by
 refine zo (zm _) rfl g95 rfl ?_
 (repeat' first|simp [*,zb,c95]|(apply za<;>intro _ h<;>try simp [-Nat.le_zero_eq] at h))
 all_goals try (simp [patS, *];done)
 refine zdg (fun (i:Nat) env H=>env 12=.row 0 1 0 l.length/\H.get 0=.cells true (rowB l)/\env 13=.pure (.int .i64 l.length) /\
   env 14=.pure (.int .i64 i)/\env 1=.pure (.bool pts)/\i<=l.length/\patS pts l=allC pts (l.drop i)) (fun i=>l.length - i) 0 ?_ ?_ ?_
 ·simp [zb,Heap.empty,Heap.get,Heap.alloc,patS, *]
 ·simp only [zB];omega
 generalize patS pts l=P;rintro i env H ⟨h12,hH,h13,h14,h15,hi,hall⟩;have hfit:i < 9223372036854775807:=by omega
 (repeat' first|simp [*,zb]|(apply za<;>intro _ h<;>try simp [-Nat.le_zero_eq] at h))
 all_goals first
  | (refine ⟨i+1,by omega,by simp,by omega,?_⟩;simp [*,zc5,patC];done)
  | (simp [*,zc5,patC];done)
  | (simp [ziw, *];done)
@[simp] theorem d95 (n:Nat) (H:Heap) (l:List UInt8) (pts:Bool):zn (zg G (n+2)) H (.pure (.func 95 [])) [.pure (.str ⟨l.toArray⟩),.pure (.bool pts)]=some (.val (.pure (.bool (patS pts l)))) :=
 zh (ps:=[_,_]) (caps:=[]) sh95 (e95 n l pts)
def patR (l:List UInt8):Bool:=allC true l&&decide ((1:Int)<=l.length)&&decide ((l.length:Int)<=8)
theorem sh78:G.shared 78=false:=by decide
theorem e78 (n:Nat) (l:List UInt8) (hl:l.length < 1152921504606846975):zD G (n+1) 78 [.str ⟨l.toArray⟩]=some (.bool (patR l)):=by
 refine zo (zm _) rfl g78 rfl ?_
 (repeat' first|simp [*,zb,c78]|(apply za<;>intro _ h<;>try simp [-Nat.le_zero_eq] at h))
 refine zdg (fun (i:Nat) env H=>env 0=.pure (.str ⟨l.toArray⟩) /\
   env 3=.pure (.int .i64 i)/\i<=l.length/\allC true l=allC true (l.drop i)) (fun i=>l.length - i) 0 ?_ ?_ ?_
 ·simp [zb]
 ·simp only [zB];omega
 rintro i env H ⟨h0,h3,hi,hall⟩;have hfit:i < 9223372036854775807:=by omega
 have hP:patR l=(allC true (l.drop i)&&decide ((1:Int)<=l.length)&&decide ((l.length:Int)<=8)):=by rw [patR,hall]
 generalize patR l=P at *;(repeat' first|simp [*,zb]|(apply za<;>intro _ h<;>try simp [-Nat.le_zero_eq] at h))
 all_goals first
  | (refine ⟨i+1,by omega,by simp,by omega,?_⟩;simp [*,zc5,patC];done)
  | (simp [*,zc5,patC];done)
  | (simp [*,ziw,patR];done)
  | (intro h9;rw [zc5 (by assumption)] at h9;simp [patC] at h9;omega)
@[simp] theorem d78 (n:Nat) (H:Heap) (l:List UInt8) (hl:l.length < 1152921504606846975):zn (zg G (n+1)) H (.pure (.func 78 [])) [.pure (.str ⟨l.toArray⟩)]=some (.val (.pure (.bool (patR l)))) :=
 zh (ps:=[_]) (caps:=[]) sh78 (e78 n l hl)
def za6:List UInt8->List UInt8->Option (List UInt8)
 | a::p,b::q=>if (a.toNat:Int)=46 then (za6 p q).map (b :: ·) else if ¬ (b.toNat:Int)=46/\¬ (b.toNat:Int)=a.toNat then none else (za6 p q).map (a :: ·)
 | _,_=>some []
theorem zdv {p q:List UInt8} {i:Nat} (hp:i < p.length) (hq:i < q.length):za6 (p.drop i) (q.drop i) =
  if (p[i].toNat:Int)=46 then (za6 (p.drop (i+1)) (q.drop (i+1))).map (q[i] :: ·) else if ¬ (q[i].toNat:Int)=46/\¬ (q[i].toNat:Int)=p[i].toNat then none else (za6 (p.drop (i+1)) (q.drop (i+1))).map (p[i] :: ·):=by
 rw [List.drop_eq_getElem_cons hp,List.drop_eq_getElem_cons hq,za6]
def okB (p q:List UInt8):Bool:=patS true p&&patS true q&&decide ((p.length:Int)=q.length)
def strP (l:List UInt8):PV:=.str ⟨l.toArray⟩
def zcr (p q:List UInt8):PV:=if okB p q=true then (match za6 p q with|some r=>.tup [strP r,.bool true]|none=>.tup [strP [],.bool false]) else .tup [strP [],.bool false]
theorem zpc:G.shared 123=false:=by decide
theorem e123 (n:Nat) (p q:List UInt8):zD G (n+3) 123 [.str ⟨p.toArray⟩,.str ⟨q.toArray⟩]=some (zcr p q):=by
 refine zo (zm _) rfl g123 rfl ?_
 (repeat' first|simp [*,zb,c123]|(apply za<;>intro _ h<;>try simp [-Nat.le_zero_eq] at h))
 all_goals try (simp [zcr,okB, *,strP];done)
 have hS:zcr p q=match za6 p q with|some r=>.tup [strP r,.bool true]|none=>.tup [strP [],.bool false]:=by simp [zcr,okB, *]
 have hq:p.length=q.length:=by omega
 have hlen:p.length<=8:=by
   have h8:patS true p=true:=by assumption
   simp [patS] at h8;omega
 refine zdg (fun (d:List UInt8) env H=>env 6=.row 0 1 0 p.length/\H.get 0=.cells true (rowB (d++p.drop d.length))/\env 26=.pure (.int .i64 p.length) /\
   env 27=.pure (.int .i64 d.length)/\env 1=.pure (.str ⟨q.toArray⟩)/\d.length<=p.length/\za6 p q=(za6 (p.drop d.length) (q.drop d.length)).map (d ++ ·)) (fun d=>p.length - d.length) [] ?_ ?_ ?_
 ·simp [zb,Heap.empty,Heap.get,Heap.alloc, *]
 ·simp only [zB];simp;omega
 have hnone:za6 p q=none->zcr p q=.tup [strP [],.bool false]:=fun h=>by rw [hS,h]
 have hsome:∀ r,za6 p q=some r->zcr p q=.tup [strP r,.bool true]:=fun r h=>by rw [hS,h]
 clear hS;generalize zcr p q=P at *;have hql:∀ i,i < p.length->i < q.length:=fun i h=>by omega
 rename decide ((p.length:Int)=q.length)=true=>hx1
 rename (p.length:Int)=q.length=>hx2
 clear hq hx1 hx2;rintro d env H ⟨h6,hH,h26,h27,h1,hi,hall⟩;have hfit:d.length < 9223372036854775807:=by omega
 have hnx:=zq hH;have hget:∀ h,(d++p.drop d.length)[d.length]'h=p[d.length]'(by simp at h;omega):=fun h=>by simp
 have hlq:=hql d.length;have hln:d.length+(p.length - d.length)=p.length:=by omega
 (repeat' first|simp [*,zb]|(apply za<;>intro _ h<;>try simp [-Nat.le_zero_eq] at h))
 ·have hlt:d.length < p.length:=by assumption
  have hc:(p[d.length].toNat:Int)=46:=by assumption
  refine ⟨d++[q[d.length]'(hlq hlt)],by simp;omega,?_,by simp,by simp;omega,?_⟩
  ·have h9:(p.drop d.length).set 0 (q[d.length]'(hlq hlt))=q[d.length]'(hlq hlt)::p.drop (d.length+1):=by rw [List.drop_eq_getElem_cons hlt,List.set_cons_zero]
   rw [h9];simp
  ·rw [zdv hlt (hlq hlt),if_pos hc];simp [Function.comp_def]
 ·have hlt:d.length < p.length:=by assumption
  have hc:¬ (p[d.length].toNat:Int)=46:=by assumption
  have hb:(q[d.length]'(hlq hlt)).toNat=(46:Int):=by assumption
  refine ⟨d++[p[d.length]],by simp;omega,?_,by simp,by simp;omega,?_⟩
  ·rw [List.drop_eq_getElem_cons hlt];simp
  ·rw [zdv hlt (hlq hlt),if_neg hc,if_neg (fun h=>h.1 hb)];simp [Function.comp_def]
 ·have hlt:d.length < p.length:=by assumption
  have hc:¬ (p[d.length].toNat:Int)=46:=by assumption
  have hb:((q[d.length]'(hlq hlt)).toNat:Int)=p[d.length].toNat:=by assumption
  refine ⟨d++[p[d.length]],by simp;omega,?_,by simp,by simp;omega,?_⟩
  ·rw [List.drop_eq_getElem_cons hlt];simp
  ·rw [zdv hlt (hlq hlt),if_neg hc,if_neg (fun h=>h.2 hb)];simp [Function.comp_def]
 ·have hlt:d.length < p.length:=by assumption
  have hc:¬ (p[d.length].toNat:Int)=46:=by assumption
  have hb:¬ ((q[d.length]'(hlq hlt)).toNat:Int)=46:=by assumption
  have hb2:¬ ((q[d.length]'(hlq hlt)).toNat:Int)=p[d.length].toNat:=by assumption
  rw [hnone (by rw [hall,zdv hlt (hlq hlt),if_neg hc,if_pos ⟨hb,hb2⟩];rfl)];rfl
 ·have he:d.length=p.length:=by omega
  have h0:p.drop d.length=[]:=List.drop_eq_nil_of_le (by omega);rw [hsome d (by rw [hall,h0];simp [za6])];rw [h0];simp [strP,he]
@[simp] theorem d123 (n:Nat) (H:Heap) (p:List UInt8) (q:List UInt8):zn (zg G (n+3)) H (.pure (.func 123 [])) [.pure (.str ⟨p.toArray⟩),.pure (.str ⟨q.toArray⟩)]=some (.val (.pure (zcr p q))) :=
 zh (ps:=[_,_]) (caps:=[]) zpc (e123 n p q)
def zbe:List UInt8->List UInt8->Bool
 | a::p,b::q=>!(!decide ((a.toNat:Int)=b.toNat) && !decide ((a.toNat:Int)=46) && !decide ((b.toNat:Int)=46))&&zbe p q
 | _,_=>true
theorem zfT {p q:List UInt8} {i:Nat} (hp:i < p.length) (hq:i < q.length):zbe (p.drop i) (q.drop i) =
  (!(!decide ((p[i].toNat:Int)=q[i].toNat) && !decide ((p[i].toNat:Int)=46) && !decide ((q[i].toNat:Int)=46))&&zbe (p.drop (i+1)) (q.drop (i+1))):=by
 rw [List.drop_eq_getElem_cons hp,List.drop_eq_getElem_cons hq,zbe]
def zZ (p q:List UInt8):Bool:=patR p&&patR q&&decide ((p.length:Int)=q.length)&&zbe p q
theorem sh82:G.shared 82=false:=by decide
theorem e82 (n:Nat) (p q:List UInt8) (hp:p.length < 1152921504606846975) (hq:q.length < 1152921504606846975):zD G (n+2) 82 [.str ⟨p.toArray⟩,.str ⟨q.toArray⟩]=some (.bool (zZ p q)):=by
 refine zo (zm _) rfl g82 rfl ?_
 (repeat' first|simp [*,zb,c82]|(apply za<;>intro _ h<;>try simp [-Nat.le_zero_eq] at h))
 all_goals try (simp [zZ, *];done)
 have hS:zZ p q=zbe p q:=by simp [zZ, *]
 have hlq:∀ i,i < p.length->i < q.length:=fun i h=>by omega
 rename decide ((p.length:Int)=q.length)=true=>hx1
 rename (p.length:Int)=q.length=>hx2
 clear hx1 hx2
 refine zdg (fun (i:Nat) env H=>env 0=.pure (.str ⟨p.toArray⟩)/\env 1=.pure (.str ⟨q.toArray⟩) /\
   env 7=.pure (.int .i64 i)/\i<=p.length/\zZ p q=zbe (p.drop i) (q.drop i)) (fun i=>p.length - i) 0 ?_ ?_ ?_
 ·simp [zb,hS]
 ·simp only [zB];omega
 generalize zZ p q=P at *;clear hS;rintro i env H ⟨h0,h1,h3,hi,hall⟩;have hfit:i < 9223372036854775807:=by omega
 have hlqi:=hlq i;(repeat' first|simp [*,zb]|(apply za<;>intro _ h<;>try simp [-Nat.le_zero_eq] at h))
 all_goals first
  | (refine ⟨i+1,by omega,by simp,by omega,?_⟩;rw [zfT (by assumption) (by apply hlq;assumption)];simp [*];done)
  | (rw [zfT (by assumption) (by apply hlq;assumption)];simp [*];done)
  | (rw [List.drop_eq_nil_of_le (by omega)];simp [zbe];done)
  | skip
@[simp] theorem d82 (n:Nat) (H:Heap) (p:List UInt8) (q:List UInt8) (hp:p.length < 1152921504606846975) (hq:q.length < 1152921504606846975):zn (zg G (n+2)) H (.pure (.func 82 [])) [.pure (.str ⟨p.toArray⟩),.pure (.str ⟨q.toArray⟩)]=some (.val (.pure (.bool (zZ p q)))) :=
 zh (ps:=[_,_]) (caps:=[]) sh82 (e82 n p q hp hq)
def zca:List UInt8->Bool
 | []=>true
 | c::r=>!decide ((c.toNat:Int)=46)&&zca r
theorem zgB {l:List UInt8} {i:Nat} (h:i < l.length):zca (l.drop i)=(!decide ((l[i].toNat:Int)=46)&&zca (l.drop (i+1))):=by
 rw [List.drop_eq_getElem_cons h,zca]
theorem sh44:G.shared 44=false:=by decide
theorem e44 (n:Nat) (l p:List UInt8) (hl:l.length < 1152921504606846975) (hp:p.length < 1152921504606846975):zD G (n+3) 44 [.str ⟨l.toArray⟩,.str ⟨p.toArray⟩]=some (.bool (zca l&&zZ l p)):=by
 refine zo (zm _) rfl g44 rfl ?_
 (repeat' first|simp [*,zb,c44]|(apply za<;>intro _ h<;>try simp [-Nat.le_zero_eq] at h))
 refine zdg (fun (i:Nat) env H=>env 0=.pure (.str ⟨l.toArray⟩)/\env 1=.pure (.str ⟨p.toArray⟩) /\
   env 5=.pure (.int .i64 i)/\i<=l.length/\zca l=zca (l.drop i)) (fun i=>l.length - i) 0 ?_ ?_ ?_
 ·simp [zb]
 ·simp only [zB];omega
 generalize zca l=P at *;rintro i env H ⟨h0,h1,h3,hi,hall⟩;have hfit:i < 9223372036854775807:=by omega
 (repeat' first|simp [*,zb]|(apply za<;>intro _ h<;>try simp [-Nat.le_zero_eq] at h))
 all_goals first
  | (refine ⟨i+1,by omega,by simp,by omega,?_⟩;rw [zgB (by assumption)];simp [*];done)
  | (intro h9;rw [zgB (by assumption)] at h9;simp [*] at h9;done)
  | (rw [List.drop_eq_nil_of_le (by omega)];simp [zca];done)
  | skip
@[simp] theorem d44 (n:Nat) (H:Heap) (l:List UInt8) (p:List UInt8) (hl:l.length < 1152921504606846975) (hp:p.length < 1152921504606846975):zn (zg G (n+3)) H (.pure (.func 44 [])) [.pure (.str ⟨l.toArray⟩),.pure (.str ⟨p.toArray⟩)]=some (.val (.pure (.bool (zca l&&zZ l p)))) :=
 zh (ps:=[_,_]) (caps:=[]) sh44 (e44 n l p hl hp)
def mixL:List UInt8->List UInt8->List UInt8
 | a::p,b::q=>(if (a.toNat:Int)=46 then b else a)::mixL p q
 | _,_=>[]
theorem ziV {p q:List UInt8} {i:Nat} (hp:i < p.length) (hq:i < q.length):mixL (p.drop i) (q.drop i)=(if (p[i].toNat:Int)=46 then q[i] else p[i])::mixL (p.drop (i+1)) (q.drop (i+1)):=by
 rw [List.drop_eq_getElem_cons hp,List.drop_eq_getElem_cons hq,mixL]
theorem sh76:G.shared 76=false:=by decide
theorem e76 (n:Nat) (p q:List UInt8) (hp:p.length < 1152921504606846975) (hq:q.length < 1152921504606846975):zD G (n+3) 76 [.str ⟨p.toArray⟩,.str ⟨q.toArray⟩]=some (.tup [strP (if zZ p q=true then mixL p q else []),.bool (zZ p q)]):=by
 refine zo (zm _) rfl g76 rfl ?_
 (repeat' first|simp [*,zb,c76]|(apply za<;>intro _ h<;>try simp [-Nat.le_zero_eq] at h))
 rotate_left
 ·rfl
 have h8:patR p=true/\(p.length:Int)=q.length:=by
   have h9:zZ p q=true:=by assumption
   simp [zZ] at h9;exact ⟨h9.1.1.1,by omega⟩
 have hl8:p.length<=8:=by have:=h8.1;simp [patR] at this;omega
 have hlq:∀ i,i < p.length->i < q.length:=fun i h=>by have:=h8.2;omega
 clear h8
 refine zdg (fun (d:List UInt8) env H=>env 0=.pure (.str ⟨p.toArray⟩)/\env 1=.pure (.str ⟨q.toArray⟩)/\OwnV zia 1 H (env 7) d /\
   env 8=.pure (.int .i64 d.length)/\d.length<=p.length/\mixL p q=d++mixL (p.drop d.length) (q.drop d.length)) (fun d=>p.length - d.length) [] ?_ ?_ ?_
 ·simp [zb,OwnV.nil]
 ·simp only [zB];simp;omega
 generalize mixL p q=P at *;rintro d env H ⟨h0,h1,h7,h8,hi,hall⟩;have hfit:d.length < 9223372036854775807:=by omega
 have hlqi:=hlq d.length;have hts:=h7.toStr;(repeat' first|simp [*,zb]|(apply za<;>intro _ h<;>try simp [-Nat.le_zero_eq] at h))
 ·have hlt:d.length < p.length:=by assumption
  have hc:(p[d.length].toNat:Int)=46:=by assumption
  refine zgm (a:=q[d.length]'(hlq _ hlt)) (h7.alloc _) (fun _=>rfl) (by decide) rfl (by rw [zdB zar (by simp)];rfl) (by simp [zt];omega) (fun v' H' hv' _ _ _=>?_)
  (repeat' first|simp [*,zb]|(apply za<;>intro _ h<;>try simp [-Nat.le_zero_eq] at h))
  refine ⟨d++[q[d.length]'(hlq _ hlt)],by simp;omega,hv',by simp,by simp;omega,?_⟩
  rw [ziV hlt (hlq _ hlt),if_pos hc];simp
 ·have hlt:d.length < p.length:=by assumption
  have hc:¬ (p[d.length].toNat:Int)=46:=by assumption
  refine zgm (a:=p[d.length]) (h7.alloc _) (fun _=>rfl) (by decide) rfl (by rw [zdB zar (by simp)];rfl) (by simp [zt];omega) (fun v' H' hv' _ _ _=>?_)
  (repeat' first|simp [*,zb]|(apply za<;>intro _ h<;>try simp [-Nat.le_zero_eq] at h))
  refine ⟨d++[p[d.length]],by simp;omega,hv',by simp,by simp;omega,?_⟩
  rw [ziV hlt (hlq _ hlt),if_neg hc];simp
 ·have h0:p.drop d.length=[]:=List.drop_eq_nil_of_le (by omega);rw [h0];simp [mixL,strP]
@[simp] theorem d76 (n:Nat) (H:Heap) (p:List UInt8) (q:List UInt8) (hp:p.length < 1152921504606846975) (hq:q.length < 1152921504606846975):zn (zg G (n+3)) H (.pure (.func 76 [])) [.pure (.str ⟨p.toArray⟩),.pure (.str ⟨q.toArray⟩)]=some (.val (.pure (.tup [strP (if zZ p q=true then mixL p q else []),.bool (zZ p q)]))) :=
 zh (ps:=[_,_]) (caps:=[]) sh76 (e76 n p q hp hq)
def zdi (h:Span):Bool:=decide (0<=h.lo)&&decide (h.lo<=h.hi)&&decide (h.hi<=100)
def zeY (s:Sight):Bool:=decide (1<=s.id)&&decide (s.id<=1099511627776)&&(decide (0<=s.year)&&decide (s.year<=4000))&&zcS s.box&&patS true s.letters&&zdi s.height
theorem sh69:G.shared 69=false:=by decide
theorem e69 (n:Nat) (s:Sight):zD G (n+4) 69 [.agg s.cells]=some (.int .i64 (if zeY s=true then 0 else 1)):=by
 refine zo (zm _) rfl g69 rfl ?_
 (repeat' first|simp [*,zb,c69,Sight.cells]|(apply za<;>intro _ h<;>try simp [-Nat.le_zero_eq] at h))
 all_goals first
  | (simp [zeY,zdi, *];done)
  | (simp [zeY,zdi, *];omega)
  | skip
@[simp] theorem d69 (n:Nat) (H:Heap) (s_id:Int) (s_year:Int) (s_box_x_lo:Int) (s_box_x_hi:Int) (s_box_y_lo:Int) (s_box_y_hi:Int) (s_letters:List UInt8) (s_height_lo:Int) (s_height_hi:Int):zn (zg G (n+4)) H (.pure (.func 69 [])) [.pure (.agg [.int .i64 s_id,.int .i64 s_year,.int .i64 s_box_x_lo,.int .i64 s_box_x_hi,.int .i64 s_box_y_lo,.int .i64 s_box_y_hi,.str ⟨(s_letters).toArray⟩,.int .i64 s_height_lo,.int .i64 s_height_hi])]=some (.val (.pure ((fun (s:Sight)=>.int .i64 (if zeY s=true then 0 else 1)) (⟨s_id,s_year,⟨⟨s_box_x_lo,s_box_x_hi⟩,⟨s_box_y_lo,s_box_y_hi⟩⟩,s_letters,⟨s_height_lo,s_height_hi⟩⟩:Sight)))) :=
 zh (ps:=[_]) (caps:=[]) sh69 (e69 n (⟨s_id,s_year,⟨⟨s_box_x_lo,s_box_x_hi⟩,⟨s_box_y_lo,s_box_y_hi⟩⟩,s_letters,⟨s_height_lo,s_height_hi⟩⟩:Sight))
def zbW (s:Sight):Bool:=(decide (1<=s.id)&&decide (s.id<=1099511627776))&&(decide (0<=s.year)&&decide (s.year<=4000))&&zdb s.box&&patR s.letters&&zdi s.height
theorem sh40:G.shared 40=false:=by decide
theorem e40 (n:Nat) (s:Sight) (hl:s.letters.length < 1152921504606846975):zD G (n+4) 40 [.agg s.cells]=some (.int .i64 (if zbW s=true then 0 else 1)):=by
 refine zo (zm _) rfl g40 rfl ?_
 (repeat' first|simp [*,zb,c40,Sight.cells]|(apply za<;>intro _ h<;>try simp [-Nat.le_zero_eq] at h))
 all_goals first
  | (simp [zbW,zdi, *];done)
  | (simp [zbW,zdi, *];omega)
  | skip
@[simp] theorem d40 (n:Nat) (H:Heap) (s_id:Int) (s_year:Int) (s_box_x_lo:Int) (s_box_x_hi:Int) (s_box_y_lo:Int) (s_box_y_hi:Int) (s_letters:List UInt8) (s_height_lo:Int) (s_height_hi:Int) (hl:(fun (s:Sight)=>s.letters.length < 1152921504606846975) (⟨s_id,s_year,⟨⟨s_box_x_lo,s_box_x_hi⟩,⟨s_box_y_lo,s_box_y_hi⟩⟩,s_letters,⟨s_height_lo,s_height_hi⟩⟩:Sight)):zn (zg G (n+4)) H (.pure (.func 40 [])) [.pure (.agg [.int .i64 s_id,.int .i64 s_year,.int .i64 s_box_x_lo,.int .i64 s_box_x_hi,.int .i64 s_box_y_lo,.int .i64 s_box_y_hi,.str ⟨(s_letters).toArray⟩,.int .i64 s_height_lo,.int .i64 s_height_hi])]=some (.val (.pure ((fun (s:Sight)=>.int .i64 (if zbW s=true then 0 else 1)) (⟨s_id,s_year,⟨⟨s_box_x_lo,s_box_x_hi⟩,⟨s_box_y_lo,s_box_y_hi⟩⟩,s_letters,⟨s_height_lo,s_height_hi⟩⟩:Sight)))) :=
 zh (ps:=[_]) (caps:=[]) sh40 (e40 n (⟨s_id,s_year,⟨⟨s_box_x_lo,s_box_x_hi⟩,⟨s_box_y_lo,s_box_y_hi⟩⟩,s_letters,⟨s_height_lo,s_height_hi⟩⟩:Sight) hl)
theorem zg1 (l:List UInt8):patS true l=patR l:=by
 simp only [patS,patR]
 cases allC true l<;>simp
theorem zdS (b:Box):zcS b=zdb b:=by
 rw [Bool.eq_iff_iff];simp only [zcS,zdb,zg4,zem,Bool.and_eq_true,decide_eq_true_eq];omega
theorem zgM (s:Sight):zeY s=zbW s:=by
 simp only [zeY,zbW,zg1,zdS]
theorem zdZ:∀ (p q:List UInt8),p.length=q.length->(za6 p q).isSome=zbe p q/\(zbe p q=true->za6 p q=some (mixL p q))
 | [],[],_=>⟨rfl,fun _=>rfl⟩
 | a::p,b::q,h=>by
  obtain ⟨h1,h2⟩:=zdZ p q (by simpa using h);simp only [za6,zbe,mixL]
  by_cases ha:(a.toNat:Int)=46
  ·simp only [ha,if_true,Option.isSome_map,h1]
   refine ⟨by simp,fun h3=>?_⟩
   simp at h3;simp [h2 h3]
  ·rw [if_neg ha]
   by_cases hb:¬ (b.toNat:Int)=46/\¬ (b.toNat:Int)=a.toNat
   ·rw [if_pos hb];have:¬ (a.toNat:Int)=b.toNat:=fun e=>hb.2 e.symm;simp [ha,hb.1,this]
   ·rw [if_neg hb];have:((b.toNat:Int)=46)\/((a.toNat:Int)=b.toNat):=by
     rcases Decidable.em ((b.toNat:Int)=46) with h|h
     ·exact .inl h
     ·exact .inr (Decidable.byContradiction fun h'=>hb ⟨h,fun e=>h' e.symm⟩)
    have hz:(!(!decide ((a.toNat:Int)=b.toNat) && !decide ((a.toNat:Int)=46) && !decide ((b.toNat:Int)=46)))=true:=by
     rcases this with h|h<;>simp [h]
    rw [hz]
    refine ⟨by simp [h1],fun h3=>?_⟩
    simp at h3;simp [h2 h3,ha]
 | [],b::q,h=>by simp at h
 | a::p,[],h=>by simp at h
theorem zjn (p q:List UInt8):(okB p q&&(za6 p q).isSome)=zZ p q:=by
 simp only [okB,zZ,zg1]
 by_cases h:(p.length:Int)=q.length
 ·rw [(zdZ p q (by omega)).1]
 ·simp [h]
theorem zjm (p q:List UInt8):zcr p q=.tup [strP (if zZ p q=true then mixL p q else []),.bool (zZ p q)]:=by
 rw [<- zjn];unfold zcr
 cases ho:okB p q with
 | false=>simp
 | true =>
  have hl:p.length=q.length:=by simp [okB] at ho;omega
  obtain ⟨h1,h2⟩:=zdZ p q hl
  cases hb:za6 p q with
  | none=>simp
  | some r =>
   have:zbe p q=true:=by rw [<- h1,hb];rfl
   have:=h2 this;rw [hb] at this;simp at this;simp [this]
end Go.Proofs.YtifmedfpnnfmoaaGreatDoor.Vm
