/- The program for the machine: a table of its code, and that all of it is what the compiler makes. What the functions that check problems compute: the program's, and the specification's. -/
import Derived.Test.YtleggocccaeemaaOk11
import Derived.Test.YtleggocccaeemaaOk12
import Derived.Test.YtleggocccaeemaaOk9
import Derived.Test.YtleggocccaeemaaOk13
import Derived.Test.YtleggocccaeemaaOk7
namespace Go.Proofs.Ytleggocccaeemaa.Vm
open Go
def table:List (Nat×VFunc):=[(3,c3),(4,c4),(5,c5),(6,c6),(7,c7),(8,c8),(9,c9),(10,c10),(11,c11),(12,c12),(13,c13),(14,c14),(15,c15),(16,c16),(17,c17),(18,c18),(19,c19),(20,c20),(21,c21),(22,c22),(23,c23),(24,c24),(25,c25),(26,c26),(27,c27),(28,c28),(29,c29),(30,c30),(31,c31),(32,c32),(33,c33),(34,c34),(35,c35),(36,c36),(37,c37),(38,c38),(39,c39),(40,c40),(41,c41),(42,c42),(43,c43),(44,c44),(45,c45),(46,c46),(47,c47),(48,c48),(49,c49),(50,c50),(51,c51),(52,c52),(53,c53),(54,c54),(55,c55),(56,c56),(57,c57),(60,c60),(61,c61),(62,c62),(63,c63),(64,c64),(65,c65),(66,c66),(67,c67),(68,c68),(69,c69),(70,c70),(71,c71),(72,c72),(84,c84),(85,c85),(86,c86),(87,c87),(88,c88),(89,c89),(96,c96)]
def sharedL:List Nat:=[37,38,39,40,45,50,57,58,68,69,73,74,75,76,77,78,80,81,90,92,93,94,97]
def G:Prog:={ func:=fun f=>(table.find? (fun p=>p.1 == f)).map (·.2),shared:=fun f=>sharedL.contains f,ext:=fun _=>none,extRun:=fun f xs H=>if f=37 then ziO xs H else none }
theorem all_nil {α:Type} {p:α->Prop}:∀ a∈([]:List α),p a:=fun a h=>by simp at h
theorem all_cons {α:Type} {p:α->Prop} {a:α} {l:List α} (h:p a) (hs:∀ b∈l,p b):∀ b∈a::l,p b:=fun b hb=>by
 rcases List.mem_cons.1 hb with rfl|h1
 ·exact h
 ·exact hs b h1
theorem zn5:∀ p∈table,∃ fn Z,Try.prog.funcs[p.1]?=some fn/\zo Try.prog Z fn=some p.2 :=
 all_cons ⟨_,_,Try.func3,k3⟩ <|
 all_cons ⟨_,_,Try.func4,k4⟩ <|
 all_cons ⟨_,_,Try.func5,k5⟩ <|
 all_cons ⟨_,_,Try.func6,k6⟩ <|
 all_cons ⟨_,_,Try.func7,k7⟩ <|
 all_cons ⟨_,_,Try.func8,k8⟩ <|
 all_cons ⟨_,_,Try.func9,k9⟩ <|
 all_cons ⟨_,_,Try.func10,k10⟩ <|
 all_cons ⟨_,_,Try.func11,k11⟩ <|
 all_cons ⟨_,_,Try.func12,k12⟩ <|
 all_cons ⟨_,_,Try.func13,k13⟩ <|
 all_cons ⟨_,_,Try.func14,k14⟩ <|
 all_cons ⟨_,_,Try.func15,k15⟩ <|
 all_cons ⟨_,_,Try.func16,k16⟩ <|
 all_cons ⟨_,_,Try.func17,k17⟩ <|
 all_cons ⟨_,_,Try.func18,k18⟩ <|
 all_cons ⟨_,_,Try.func19,k19⟩ <|
 all_cons ⟨_,_,Try.func20,k20⟩ <|
 all_cons ⟨_,_,Try.func21,k21⟩ <|
 all_cons ⟨_,_,Try.func22,k22⟩ <|
 all_cons ⟨_,_,Try.func23,k23⟩ <|
 all_cons ⟨_,_,Try.func24,k24⟩ <|
 all_cons ⟨_,_,Try.func25,k25⟩ <|
 all_cons ⟨_,_,Try.func26,k26⟩ <|
 all_cons ⟨_,_,Try.func27,k27⟩ <|
 all_cons ⟨_,_,Try.func28,k28⟩ <|
 all_cons ⟨_,_,Try.func29,k29⟩ <|
 all_cons ⟨_,_,Try.func30,k30⟩ <|
 all_cons ⟨_,_,Try.func31,k31⟩ <|
 all_cons ⟨_,_,Try.func32,k32⟩ <|
 all_cons ⟨_,_,Try.func33,k33⟩ <|
 all_cons ⟨_,_,Try.func34,k34⟩ <|
 all_cons ⟨_,_,Try.func35,k35⟩ <|
 all_cons ⟨_,_,Try.func36,k36⟩ <|
 all_cons ⟨_,_,Try.func37,k37⟩ <|
 all_cons ⟨_,_,Try.func38,k38⟩ <|
 all_cons ⟨_,_,Try.func39,k39⟩ <|
 all_cons ⟨_,_,Try.func40,k40⟩ <|
 all_cons ⟨_,_,Try.func41,k41⟩ <|
 all_cons ⟨_,_,Try.func42,k42⟩ <|
 all_cons ⟨_,_,Try.func43,k43⟩ <|
 all_cons ⟨_,_,Try.func44,k44⟩ <|
 all_cons ⟨_,_,Try.func45,k45⟩ <|
 all_cons ⟨_,_,Try.func46,k46⟩ <|
 all_cons ⟨_,_,Try.func47,k47⟩ <|
 all_cons ⟨_,_,Try.func48,k48⟩ <|
 all_cons ⟨_,_,Try.func49,k49⟩ <|
 all_cons ⟨_,_,Try.func50,k50⟩ <|
 all_cons ⟨_,_,Try.func51,k51⟩ <|
 all_cons ⟨_,_,Try.func52,k52⟩ <|
 all_cons ⟨_,_,Try.func53,k53⟩ <|
 all_cons ⟨_,_,Try.func54,k54⟩ <|
 all_cons ⟨_,_,Try.func55,k55⟩ <|
 all_cons ⟨_,_,Try.func56,k56⟩ <|
 all_cons ⟨_,_,Try.func57,k57⟩ <|
 all_cons ⟨_,_,Try.func60,k60⟩ <|
 all_cons ⟨_,_,Try.func61,k61⟩ <|
 all_cons ⟨_,_,Try.func62,k62⟩ <|
 all_cons ⟨_,_,Try.func63,k63⟩ <|
 all_cons ⟨_,_,Try.func64,k64⟩ <|
 all_cons ⟨_,_,Try.func65,k65⟩ <|
 all_cons ⟨_,_,Try.func66,k66⟩ <|
 all_cons ⟨_,_,Try.func67,k67⟩ <|
 all_cons ⟨_,_,Try.func68,k68⟩ <|
 all_cons ⟨_,_,Try.func69,k69⟩ <|
 all_cons ⟨_,_,Try.func70,k70⟩ <|
 all_cons ⟨_,_,Try.func71,k71⟩ <|
 all_cons ⟨_,_,Try.func72,k72⟩ <|
 all_cons ⟨_,_,Try.func84,k84⟩ <|
 all_cons ⟨_,_,Try.func85,k85⟩ <|
 all_cons ⟨_,_,Try.func86,k86⟩ <|
 all_cons ⟨_,_,Try.func87,k87⟩ <|
 all_cons ⟨_,_,Try.func88,k88⟩ <|
 all_cons ⟨_,_,Try.func89,k89⟩ <|
 all_cons ⟨_,_,Try.func96,k96⟩ <|
 all_nil
theorem gOk:GOk Try.prog G :=
 ⟨by kernel_rfl,fun f vf h=>by
  simp only [G,Option.map_eq_some_iff] at h;obtain ⟨p,hp,rfl⟩:=h;have h1:=List.mem_of_find?_eq_some hp;have h2:=List.find?_some hp;simp at h2;have:=zn5 p h1;rwa [h2] at this,fun f g ps r h=>by simp [G] at h,fun f xs H r H1 h=>by
  simp only [G] at h
  split at h
  ·rename_i hf;subst hf;exact zkn ⟨_,Try.func37,by kernel_rfl,by kernel_rfl⟩ Try.slices_Sort_int h
  ·simp at h⟩
theorem g3:G.func 3=some c3:=by kernel_rfl
theorem g4:G.func 4=some c4:=by kernel_rfl
theorem g5:G.func 5=some c5:=by kernel_rfl
theorem g6:G.func 6=some c6:=by kernel_rfl
theorem g7:G.func 7=some c7:=by kernel_rfl
theorem g8:G.func 8=some c8:=by kernel_rfl
theorem g9:G.func 9=some c9:=by kernel_rfl
theorem g10:G.func 10=some c10:=by kernel_rfl
theorem g11:G.func 11=some c11:=by kernel_rfl
theorem g12:G.func 12=some c12:=by kernel_rfl
theorem g13:G.func 13=some c13:=by kernel_rfl
theorem g14:G.func 14=some c14:=by kernel_rfl
theorem g15:G.func 15=some c15:=by kernel_rfl
theorem g16:G.func 16=some c16:=by kernel_rfl
theorem g19:G.func 19=some c19:=by kernel_rfl
theorem g20:G.func 20=some c20:=by kernel_rfl
theorem g21:G.func 21=some c21:=by kernel_rfl
theorem g22:G.func 22=some c22:=by kernel_rfl
theorem g23:G.func 23=some c23:=by kernel_rfl
theorem g24:G.func 24=some c24:=by kernel_rfl
theorem g25:G.func 25=some c25:=by kernel_rfl
theorem g26:G.func 26=some c26:=by kernel_rfl
theorem g27:G.func 27=some c27:=by kernel_rfl
theorem g28:G.func 28=some c28:=by kernel_rfl
theorem g29:G.func 29=some c29:=by kernel_rfl
theorem g30:G.func 30=some c30:=by kernel_rfl
theorem g31:G.func 31=some c31:=by kernel_rfl
theorem g32:G.func 32=some c32:=by kernel_rfl
theorem g33:G.func 33=some c33:=by kernel_rfl
theorem g35:G.func 35=some c35:=by kernel_rfl
theorem g38:G.func 38=some c38:=by kernel_rfl
theorem g43:G.func 43=some c43:=by kernel_rfl
theorem g44:G.func 44=some c44:=by kernel_rfl
theorem g45:G.func 45=some c45:=by kernel_rfl
theorem g46:G.func 46=some c46:=by kernel_rfl
theorem g47:G.func 47=some c47:=by kernel_rfl
theorem g48:G.func 48=some c48:=by kernel_rfl
theorem g49:G.func 49=some c49:=by kernel_rfl
theorem g50:G.func 50=some c50:=by kernel_rfl
theorem g51:G.func 51=some c51:=by kernel_rfl
theorem g52:G.func 52=some c52:=by kernel_rfl
theorem g53:G.func 53=some c53:=by kernel_rfl
theorem g54:G.func 54=some c54:=by kernel_rfl
theorem g55:G.func 55=some c55:=by kernel_rfl
theorem g56:G.func 56=some c56:=by kernel_rfl
theorem g61:G.func 61=some c61:=by kernel_rfl
theorem g62:G.func 62=some c62:=by kernel_rfl
theorem g63:G.func 63=some c63:=by kernel_rfl
theorem g64:G.func 64=some c64:=by kernel_rfl
theorem g65:G.func 65=some c65:=by kernel_rfl
theorem g66:G.func 66=some c66:=by kernel_rfl
theorem g67:G.func 67=some c67:=by kernel_rfl
theorem g68:G.func 68=some c68:=by kernel_rfl
theorem g69:G.func 69=some c69:=by kernel_rfl
theorem g70:G.func 70=some c70:=by kernel_rfl
theorem g71:G.func 71=some c71:=by kernel_rfl
theorem g72:G.func 72=some c72:=by kernel_rfl
theorem g84:G.func 84=some c84:=by kernel_rfl
theorem g85:G.func 85=some c85:=by kernel_rfl
theorem g86:G.func 86=some c86:=by kernel_rfl
theorem g87:G.func 87=some c87:=by kernel_rfl
theorem g88:G.func 88=some c88:=by kernel_rfl
theorem g89:G.func 89=some c89:=by kernel_rfl
theorem g96:G.func 96=some c96:=by kernel_rfl
theorem zB (f:Nat):G.ext f=none:=rfl
set_option linter.unusedSimpArgs false
set_option linter.unusedVariables false
set_option maxHeartbeats 1000000
theorem zgK {cl:Callee} {env:Env} {H:Heap} {neg:Bool} {n:Nat} {os:List Nat} {x y:Opnd}:step cl env H (.aggEq neg n os x y)=if zbE (x.eval env)=true/\zbE (y.eval env)=true/\(x.eval env).cells.length=n/\(y.eval env).cells.length=n then
   match zaC (x.eval env).cells (y.eval env).cells os with
   | some b=>some (.val (.pure (.bool (b != neg))))
   | none=>none
  else none:=rfl
def inB (a b c:Int):Bool:=decide (b<=a)&&decide (a<=c)
def zdL (s:Span) (lo hi:Int):Bool:=decide (lo<=s.lo)&&decide (s.lo<=s.hi)&&decide (s.hi<=hi)
def zaz (b:Box):Bool:=zdL b.x (-1048576) 1048576&&zdL b.y (-1048576) 1048576
def boxB (b:Box):Bool:=zaz b&&decide (b.x.hi - b.x.lo < 1024)&&decide (b.y.hi - b.y.lo < 1024)
def zaB (f:Fact) (n:Int):Bool :=
 inB f.id 0 1099511627776&&inB f.a 0 (n - 1)&&inB f.b 0 (n - 1) && !decide (f.a=f.b)&&zdL f.span (-17592186044416) 17592186044416 &&
  (if f.kind=2 then inB f.c 0 (n - 1) && !decide (f.c=f.a) && !decide (f.c=f.b)&&decide (f.quarter=0)
   else decide (f.c=0)&&(if f.kind=1\/f.kind=5\/f.kind=6 then decide (f.quarter=0) else if f.kind=4 then decide (f.quarter=0)&&decide (f.span.lo=0)
    else if f.kind=3 then inB f.quarter 0 3&&decide (f.span.lo=0)&&decide (f.span.hi=0) else false))
theorem sh31:G.shared 31=false:=by decide
theorem e31 (n:Nat) (a b c:Int):zI G (n+1) 31 [.int .i64 a,.int .i64 b,.int .i64 c]=some (.bool (inB a b c)):=by
 refine zA (zB _) rfl g31 rfl ?_
 (repeat' first|simp [*,zb,c31,inB]|(apply za<;>intro _ h<;>try simp [-Nat.le_zero_eq] at h))
@[simp] theorem d31 (n:Nat) (H:Heap) (a:Int) (b:Int) (c:Int):zM (zq G (n+1)) H (.pure (.func 31 [])) [.pure (.int .i64 a),.pure (.int .i64 b),.pure (.int .i64 c)]=some (.val (.pure (.bool (inB a b c)))) :=
 zh (ps:=[_,_,_]) (caps:=[]) sh31 (e31 n a b c)
theorem sh44:G.shared 44=false:=by decide
theorem e44 (n:Nat) (s:Span) (lo hi:Int):zI G (n+1) 44 [.agg s.cells,.int .i64 lo,.int .i64 hi]=some (.bool (zdL s lo hi)):=by
 refine zA (zB _) rfl g44 rfl ?_
 (repeat' first|simp [*,zb,c44,Span.cells,zdL]|(apply za<;>intro _ h<;>try simp [-Nat.le_zero_eq] at h))
@[simp] theorem d44 (n:Nat) (H:Heap) (s_lo:Int) (s_hi:Int) (lo:Int) (hi:Int):zM (zq G (n+1)) H (.pure (.func 44 [])) [.pure (.agg [.int .i64 s_lo,.int .i64 s_hi]),.pure (.int .i64 lo),.pure (.int .i64 hi)]=some (.val (.pure ((fun (s:Span)=>.bool (zdL s lo hi)) (⟨s_lo,s_hi⟩:Span)))) :=
 zh (ps:=[_,_,_]) (caps:=[]) sh44 (e44 n (⟨s_lo,s_hi⟩:Span) lo hi)
theorem sh20:G.shared 20=false:=by decide
theorem e20 (n:Nat) (b:Box):zI G (n+2) 20 [.agg b.cells]=some (.bool (zaz b)):=by
 refine zA (zB _) rfl g20 rfl ?_
 (repeat' first|simp [*,zb,c20,Box.cells,zaz]|(apply za<;>intro _ h<;>try simp [-Nat.le_zero_eq] at h))
theorem sh43:G.shared 43=false:=by decide
theorem e43 (n:Nat) (s:Span) (lo hi:Int):zI G (n+1) 43 [.agg s.cells,.int .i64 lo,.int .i64 hi]=some (.bool (zdL s lo hi)):=by
 refine zA (zB _) rfl g43 rfl ?_
 (repeat' first|simp [*,zb,c43,Span.cells,zdL]|(apply za<;>intro _ h<;>try simp [-Nat.le_zero_eq] at h))
@[simp] theorem d43 (n:Nat) (H:Heap) (s_lo:Int) (s_hi:Int) (lo:Int) (hi:Int):zM (zq G (n+1)) H (.pure (.func 43 [])) [.pure (.agg [.int .i64 s_lo,.int .i64 s_hi]),.pure (.int .i64 lo),.pure (.int .i64 hi)]=some (.val (.pure ((fun (s:Span)=>.bool (zdL s lo hi)) (⟨s_lo,s_hi⟩:Span)))) :=
 zh (ps:=[_,_,_]) (caps:=[]) sh43 (e43 n (⟨s_lo,s_hi⟩:Span) lo hi)
theorem sh19:G.shared 19=false:=by decide
theorem e19 (n:Nat) (b:Box):zI G (n+2) 19 [.agg b.cells]=some (.bool (zaz b)):=by
 refine zA (zB _) rfl g19 rfl ?_
 (repeat' first|simp [*,zb,c19,Box.cells,zaz]|(apply za<;>intro _ h<;>try simp [-Nat.le_zero_eq] at h))
theorem sh21:G.shared 21=false:=by decide
theorem e21 (n:Nat) (s:Span) (h:s.hi - s.lo < 4611686018427387904) (h2:-4611686018427387904 < s.hi - s.lo):zI G (n+1) 21 [.agg s.cells]=some (.int .i64 (s.hi - s.lo+1)):=by
 refine zA (zB _) rfl g21 rfl ?_
 have w1:IntKind.i64.wrap (s.hi - s.lo)=s.hi - s.lo:=wrap64 (by omega) (by omega);have w2:IntKind.i64.wrap (s.hi - s.lo+1)=s.hi - s.lo+1:=wrap64 (by omega) (by omega);(repeat' first|simp [*,zb,c21,Span.cells]|(apply za<;>intro _ h<;>try simp [-Nat.le_zero_eq] at h))
theorem sh22:G.shared 22=false:=by decide
theorem e22 (n:Nat) (f:Fact) (m:Nat) (hm:m < 1000):zI G (n+2) 22 [.agg f.cells,.int .i64 m]=some (.bool (zaB f m)):=by
 refine zA (zB _) rfl g22 rfl ?_
 have w1:IntKind.i64.wrap ((m:Int) - 1)=(m:Int) - 1:=wrap64 (by omega) (by omega);(repeat' first|simp [*,zb,c22,Fact.cells,zgK,zaC,zbE]|(apply za<;>intro _ h<;>try simp [-Nat.le_zero_eq] at h))
 all_goals try (simp [zaB, *];done)
 all_goals try (simp_all [zaB];done)
 all_goals (by_cases e1:f.span.lo=0<;>by_cases e2:f.span.hi=0)
 all_goals (repeat' first|simp [*,zb]|(apply za<;>intro _ h<;>try simp [-Nat.le_zero_eq] at h))
 all_goals try (simp [zaB, *];done)
 all_goals try (simp_all [zaB];done)
end Go.Proofs.Ytleggocccaeemaa.Vm
