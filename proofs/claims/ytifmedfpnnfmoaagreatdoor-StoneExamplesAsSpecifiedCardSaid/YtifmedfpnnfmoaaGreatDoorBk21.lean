/- What makes an account of a stone's life true: the program's led, the specification's gap. What the program's True computes, and the specification's: the first sight or note that is not so. The example that follows the nearest points is true. Plain Lean. stone.Example: walked. The least course fits and has as few changes as there are: what the specification counts, and the least course as the program hands it out. -/
import Derived.Test.YtifmedfpnnfmoaaGreatDoorBk17
import Derived.Test.YtifmedfpnnfmoaaGreatDoorBk18
import Derived.Test.YtifmedfpnnfmoaaGreatDoorBk12
import Derived.Test.YtifmedfpnnfmoaaGreatDoorBk20
namespace Go.Proofs.YtifmedfpnnfmoaaGreatDoor.Vm
open Go
set_option linter.unusedSimpArgs false
set_option linter.unusedVariables false
set_option maxHeartbeats 4000000
structure Pt where
 x:Int
 y:Int
 deriving Inhabited
@[simp] def Pt.cells (s:Pt):List PV:=[.int .i64 s.x,.int .i64 s.y]
@[simp] theorem Pt.eta (s:Pt):(⟨s.x,s.y⟩:Pt)=s:=rfl
@[simp] theorem zpS (x0:Int) (x1:Int) (P:Pt->Prop) {u}:asF Pt.cells [.pure (.int .i64 x0),.pure (.int .i64 x1)] P u↔P ⟨x0,x1⟩:=by
 constructor
 ·rintro ⟨a,h,hp⟩;simp [Pt.cells] at h;obtain ⟨rfl,rfl⟩:=h;exact hp
 ·intro h;exact ⟨_,rfl,h⟩
structure Lived where
 points:Sl Pt
 letters:Sl (List UInt8)
 heights:Sl Int
 course:Sl Int
 deriving Inhabited
@[simp] def Lived.cells (s:Lived):List PV:=[(s.points).pv Pt.cells 2,(s.letters).pv strF 1,(s.heights).pv intF 1,(s.course).pv intF 1]
@[simp] theorem Lived.eta (s:Lived):(⟨s.points,s.letters,s.heights,s.course⟩:Lived)=s:=rfl
def zeB (b:Box) (p:Pt):Bool:=zcS b&&(decide (b.x.lo<=p.x)&&decide (p.x<=b.x.hi))&&(decide (b.y.lo<=p.y)&&decide (p.y<=b.y.hi))
theorem sh43:G.shared 43=false:=by decide
theorem e43 (n:Nat) (b:Box) (p:Pt):zD G (n+4) 43 [.agg b.cells,.agg p.cells]=some (.bool (zeB b p)):=by
 refine zo (zm _) rfl g43 rfl ?_
 have hp:=zdS b;(repeat' first|simp [*,zb,c43,Box.cells,Pt.cells,zeB]|(apply za<;>intro _ h<;>try simp [-Nat.le_zero_eq] at h))
@[simp] theorem d43 (n:Nat) (H:Heap) (b_x_lo:Int) (b_x_hi:Int) (b_y_lo:Int) (b_y_hi:Int) (p_x:Int) (p_y:Int):zn (zg G (n+4)) H (.pure (.func 43 [])) [.pure (.agg [.int .i64 b_x_lo,.int .i64 b_x_hi,.int .i64 b_y_lo,.int .i64 b_y_hi]),.pure (.agg [.int .i64 p_x,.int .i64 p_y])]=some (.val (.pure ((fun (b:Box)=>(fun (p:Pt)=>.bool (zeB b p)) (⟨p_x,p_y⟩:Pt)) (⟨⟨b_x_lo,b_x_hi⟩,⟨b_y_lo,b_y_hi⟩⟩:Box)))) :=
 zh (ps:=[_,_]) (caps:=[]) sh43 (e43 n (⟨⟨b_x_lo,b_x_hi⟩,⟨b_y_lo,b_y_hi⟩⟩:Box) (⟨p_x,p_y⟩:Pt))
def ptEq (v w:AV):Option Eff:=if zbv v=true/\zbv w=true/\v.cells.length=2/\w.cells.length=2 then
   match zay v.cells w.cells [0,1] with
   | some b=>some (.val (.pure (.bool (b != false))))
   | none=>none
  else none
@[simp] theorem zpE (a b c d:Int):ptEq (.pure (.agg [.int .i64 a,.int .i64 b])) (.pure (.agg [.int .i64 c,.int .i64 d]))=some (.val (.pure (.bool (decide (a=c)&&decide (b=d))))):=by
 unfold ptEq;rw [if_pos ⟨rfl,rfl,rfl,rfl⟩]
 by_cases h1:a=c<;>by_cases h2:b=d<;>simp [zay,h1,h2]
theorem zm0 {cl:Callee} {env:Env} {H:Heap} (x y:Opnd):step cl env H (.aggEq false 2 [0,1] x y)=ptEq (x.eval env) (y.eval env):=rfl
def ziy (p q:Pt) (d:Int):Bool:=(decide (-d<=p.x - q.x)&&decide (p.x - q.x<=d))&&(decide (-d<=p.y - q.y)&&decide (p.y - q.y<=d))
def okPt (p:Pt):Prop:=-1048576<=p.x/\p.x<=1048576/\-1048576<=p.y/\p.y<=1048576
def gapP (h:Habit) (c:Int) (p q:Pt) (s t:List UInt8) (a b yr:Int):Bool :=
 if c=0 then (decide (p.x=q.x)&&decide (p.y=q.y))&&decide (s=t)&&(decide (0<=a - b)&&decide (a - b<=h.sink*yr)) else (decide (c=2)||decide (s=t))&&ziy p q (farD h c)
structure Sized (l:Life) (x:Lived):Prop where
 points:x.points.xs.length=l.sights.xs.length
 letters:x.letters.xs.length=l.sights.xs.length
 heights:x.heights.xs.length=l.sights.xs.length
 course:x.course.xs.length+1=l.sights.xs.length
 kinds:∀ c∈x.course.xs,0<=c/\c<=2
def gapS (l:Life) (x:Lived) (k:Nat):Bool:=gapP l.habit x.course.xs[k-1]! x.points.xs[k-1]! x.points.xs[k]! x.letters.xs[k-1]! x.letters.xs[k]! x.heights.xs[k-1]! x.heights.xs[k]! (l.sights.xs[k]!.year - l.sights.xs[k-1]!.year)
def okR (x:Lived) (k:Nat):Prop:=okPt x.points.xs[k]! /\ 0<=x.heights.xs[k]! /\ x.heights.xs[k]! <= 100
theorem sh45:G.shared 45=false:=by decide
theorem e45 (n:Nat) (l:Life) (x:Lived) (k:Nat) (hr:Right l) (hz:Sized l x) (h0:0 < k) (hk:k < l.sights.xs.length) (ha:okR x (k - 1)) (hb:okR x k):zD G (n+3) 45 [.agg l.cells,.agg x.cells,.int .i64 k]=some (.bool (gapS l x k)):=by
 refine zo (zm _) rfl g45 rfl ?_
 have h9:=hr.nine;have hk1:k - 1 < l.sights.xs.length:=by omega
 have hfit:k < 9223372036854775807:=by omega
 have hw:IntKind.i64.wrap ((k:Int) - 1)=((k - 1:Nat):Int):=zeX h0 hfit;have a1:=zaD (f:=Pt.cells) (sz:=2) (k:=.i64) (s:=x.points) (n:=k - 1) (by rw [hz.points];exact hk1);have a2:=zaD (f:=Pt.cells) (sz:=2) (k:=.i64) (s:=x.points) (n:=k) (by rw [hz.points];exact hk);have a3:=zaD (f:=strF) (sz:=1) (k:=.i64) (s:=x.letters) (n:=k - 1) (by rw [hz.letters];exact hk1);have a4:=zaD (f:=strF) (sz:=1) (k:=.i64) (s:=x.letters) (n:=k) (by rw [hz.letters];exact hk);have a5:=zaD (f:=intF) (sz:=1) (k:=.i64) (s:=x.heights) (n:=k - 1) (by rw [hz.heights];exact hk1);have a6:=zaD (f:=intF) (sz:=1) (k:=.i64) (s:=x.heights) (n:=k) (by rw [hz.heights];exact hk);have a7:=zaD (f:=intF) (sz:=1) (k:=.i64) (s:=x.course) (n:=k - 1) (by have:=hz.course;omega);have a8:=zaD (f:=Sight.cells) (sz:=9) (k:=.i64) (s:=l.sights) (n:=k - 1) hk1;have a9:=zaD (f:=Sight.cells) (sz:=9) (k:=.i64) (s:=l.sights) (n:=k) hk;have hc:=hz.kinds _ (List.getElem_mem (l:=x.course.xs) (n:=k - 1) (by have:=hz.course;omega));have hy:=hr.yr (k:=k - 1) (by omega);have hP:gapS l x k=gapP l.habit (x.course.xs[k-1]'(by have:=hz.course;omega)) (x.points.xs[k-1]'(by rw [hz.points];exact hk1)) (x.points.xs[k]'(by rw [hz.points];exact hk)) (x.letters.xs[k-1]'(by rw [hz.letters];exact hk1)) (x.letters.xs[k]'(by rw [hz.letters];exact hk)) (x.heights.xs[k-1]'(by rw [hz.heights];exact hk1)) (x.heights.xs[k]'(by rw [hz.heights];exact hk)) ((l.sights.xs[k]'hk).year - (l.sights.xs[k-1]'hk1).year):=by
  unfold gapS;rw [getElem!_pos x.course.xs (k-1) (by have:=hz.course;omega),getElem!_pos x.points.xs (k-1) (by rw [hz.points];exact hk1),getElem!_pos x.points.xs k (by rw [hz.points];exact hk),getElem!_pos x.letters.xs (k-1) (by rw [hz.letters];exact hk1),getElem!_pos x.letters.xs k (by rw [hz.letters];exact hk),getElem!_pos x.heights.xs (k-1) (by rw [hz.heights];exact hk1),getElem!_pos x.heights.xs k (by rw [hz.heights];exact hk),getElem!_pos l.sights.xs k hk,getElem!_pos l.sights.xs (k-1) hk1]
 rw [hP];unfold okR at ha hb;rw [getElem!_pos x.points.xs (k-1) (by rw [hz.points];exact hk1),getElem!_pos x.heights.xs (k-1) (by rw [hz.heights];exact hk1)] at ha;rw [getElem!_pos x.points.xs k (by rw [hz.points];exact hk),getElem!_pos x.heights.xs k (by rw [hz.heights];exact hk)] at hb;simp only [show k - 1+1=k by omega] at hy;generalize x.points.xs[k-1]'(by rw [hz.points];exact hk1)=p at *;generalize x.points.xs[k]'(by rw [hz.points];exact hk)=q at *;generalize x.letters.xs[k-1]'(by rw [hz.letters];exact hk1)=s at *;generalize x.letters.xs[k]'(by rw [hz.letters];exact hk)=t at *;generalize x.heights.xs[k-1]'(by rw [hz.heights];exact hk1)=a at *;generalize x.heights.xs[k]'(by rw [hz.heights];exact hk)=b at *;generalize x.course.xs[k-1]'(by have:=hz.course;omega)=c at *;generalize l.sights.xs[k-1]'hk1=y1 at *;generalize l.sights.xs[k]'hk=y2 at *;have hh:=hr.habit;have hsk:=zdw hh hy;have hfr:=fun k=>zdo (k:=k) hh;have hst:=hfr 1;have hpl:=hfr 2;simp only [farD] at hst hpl;have w1:IntKind.i64.wrap (y2.year - y1.year)=y2.year - y1.year:=wrap64 (by omega) (by omega);have w2:IntKind.i64.wrap (l.habit.sink*(y2.year - y1.year))=l.habit.sink*(y2.year - y1.year):=wrap64 (by omega) (by omega);have w3:IntKind.i64.wrap (a - b)=a - b:=wrap64 (by omega) (by omega);simp only [Pt.cells] at a1 a2;simp only [Sight.cells] at a8 a9;have hc3:c=0\/c=1\/c=2:=by omega
 unfold okPt at ha hb;have v1:IntKind.i64.wrap (p.x - q.x)=p.x - q.x:=wrap64 (by omega) (by omega);have v2:IntKind.i64.wrap (q.x - p.x)=q.x - p.x:=wrap64 (by omega) (by omega);have v3:IntKind.i64.wrap (p.y - q.y)=p.y - q.y:=wrap64 (by omega) (by omega);have v4:IntKind.i64.wrap (q.y - p.y)=q.y - p.y:=wrap64 (by omega) (by omega);have v5:IntKind.i64.wrap (a - l.habit.sink*(y2.year - y1.year))=a - l.habit.sink*(y2.year - y1.year):=wrap64 (by omega) (by omega);clear hP ha hb hy hr hz hfr hst hpl hc hsk hh;rcases hc3 with rfl|rfl|rfl
 all_goals (repeat' first|simp [*,zb,c45,gapP,ziy,farD,zm0]|(apply za<;>intro _ h<;>try simp [-Nat.le_zero_eq] at h))
 all_goals first|omega|(intros;omega)|(intros;constructor<;>omega)
@[simp] theorem d45 (n:Nat) (H:Heap) (l_habit_step:Int) (l_habit_place:Int) (l_habit_sink:Int) (l_sights:Sl Sight) (l_notes:Sl Note) (x_points:Sl Pt) (x_letters:Sl (List UInt8)) (x_heights:Sl Int) (x_course:Sl Int) (k:Nat) (hr:(fun (l:Life)=>Right l) (⟨⟨l_habit_step,l_habit_place,l_habit_sink⟩,l_sights,l_notes⟩:Life)) (hz:(fun (x:Lived)=>(fun (l:Life)=>Sized l x) (⟨⟨l_habit_step,l_habit_place,l_habit_sink⟩,l_sights,l_notes⟩:Life)) (⟨x_points,x_letters,x_heights,x_course⟩:Lived)) (h0:0 < k) (hk:(fun (l:Life)=>k < l.sights.xs.length) (⟨⟨l_habit_step,l_habit_place,l_habit_sink⟩,l_sights,l_notes⟩:Life)) (ha:(fun (x:Lived)=>okR x (k - 1)) (⟨x_points,x_letters,x_heights,x_course⟩:Lived)) (hb:(fun (x:Lived)=>okR x k) (⟨x_points,x_letters,x_heights,x_course⟩:Lived)):zn (zg G (n+3)) H (.pure (.func 45 [])) [.pure (.agg [.int .i64 l_habit_step,.int .i64 l_habit_place,.int .i64 l_habit_sink,(l_sights).pv Sight.cells 9,(l_notes).pv Note.cells 4]),.pure (.agg [(x_points).pv Pt.cells 2,(x_letters).pv strF 1,(x_heights).pv intF 1,(x_course).pv intF 1]),.pure (.int .i64 k)]=some (.val (.pure ((fun (l:Life)=>(fun (x:Lived)=>.bool (gapS l x k)) (⟨x_points,x_letters,x_heights,x_course⟩:Lived)) (⟨⟨l_habit_step,l_habit_place,l_habit_sink⟩,l_sights,l_notes⟩:Life)))) :=
 zh (ps:=[_,_,_]) (caps:=[]) sh45 (e45 n (⟨⟨l_habit_step,l_habit_place,l_habit_sink⟩,l_sights,l_notes⟩:Life) (⟨x_points,x_letters,x_heights,x_course⟩:Lived) k hr hz h0 hk ha hb)
def seeA (s:Sight) (p:Pt) (t:List UInt8) (h:Int):Bool:=zeB s.box p&&((zca t&&zZ t s.letters)&&(decide (s.height.lo<=h)&&decide (h<=s.height.hi)))
def seeS (l:Life) (x:Lived) (k:Nat):Bool:=seeA l.sights.xs[k]! x.points.xs[k]! x.letters.xs[k]! x.heights.xs[k]! && (decide (k=0)||gapS l x k)
theorem zku {l:Life} {x:Lived} {k:Nat} (h1:k < l.sights.xs.length) (h2:k < x.points.xs.length) (h3:k < x.letters.xs.length) (h4:k < x.heights.xs.length) :
  seeS l x k=(seeA l.sights.xs[k] x.points.xs[k] x.letters.xs[k] x.heights.xs[k]&&(decide (k=0)||gapS l x k)):=by
 unfold seeS;rw [getElem!_pos l.sights.xs k h1,getElem!_pos x.points.xs k h2,getElem!_pos x.letters.xs k h3,getElem!_pos x.heights.xs k h4]
theorem ze1 {α:Type} {q:α->Bool} {l:List α} {i:Nat} (h:i < l.length):(l.drop i).find? q=if q l[i]=true then some l[i] else (l.drop (i+1)).find? q:=by
 rw [List.drop_eq_getElem_cons h,List.find?_cons]
 cases q l[i]<;>rfl
theorem zf5 {q:Nat->Bool} {n i:Nat} (h:i < n):((List.range n).drop i).find? q=if q i=true then some i else ((List.range n).drop (i+1)).find? q:=by
 rw [ze1 (by simpa using h)];simp
theorem ziK {α:Type} {q:α->Bool} {l:List α} {i:Nat} (h:l.length<=i):(l.drop i).find? q=none:=by
 rw [List.drop_eq_nil_of_le h];rfl
def zdp (l:Life) (x:Lived):Prop:=x.points.xs.length=l.sights.xs.length/\x.letters.xs.length=l.sights.xs.length/\x.heights.xs.length=l.sights.xs.length
instance (l:Life) (x:Lived):Decidable (zdp l x):=by unfold zdp;infer_instance
def zdO (l:Life) (x:Lived):Option Nat:=(List.range l.sights.xs.length).find? fun k=>!seeS l x k
def zdt (l:Life) (x:Lived):Option Note:=l.notes.xs.find? fun m=>!zao l.sights.xs m x.course.xs
def zgh (l:Life) (x:Lived):Int×Bool×Int :=
 if zQ l x.course.xs≠0 then (0,false,zQ l x.course.xs) else if zdp l x then
  match zdO l x with
  | some k=>(l.sights.xs[k]!.id,false,0)
  | none=>match zdt l x with
   | some m=>(m.id,false,0)
   | none=>(0,true,0)
 else (0,false,1)
def zb9 (r:Int×Bool×Int):PV:=.agg [.int .i64 r.1,.bool r.2.1,.int .i64 r.2.2]
theorem znU {l:Life} {x:Lived} (hr:Right l) (hz:zdp l x) {k:Nat} (hk:k < l.sights.xs.length) (h:seeS l x k=true):okR x k:=by
 have hp:=hr.sp (List.getElem_mem (l:=l.sights.xs) (n:=k) hk);rw [zku hk (by rw [hz.1];exact hk) (by rw [hz.2.1];exact hk) (by rw [hz.2.2];exact hk)] at h;unfold okR okPt;rw [getElem!_pos x.points.xs k (by rw [hz.1];exact hk),getElem!_pos x.heights.xs k (by rw [hz.2.2];exact hk)];simp only [seeA,zeB,Bool.and_eq_true,decide_eq_true_eq] at h;unfold okSp at hp;omega
theorem zm1 {l:Life} {x:Lived} (hr:Right l) (hz:zdp l x) {k:Nat} (hk:k < l.sights.xs.length) (h1:zeB l.sights.xs[k].box (x.points.xs[k]'(by rw [hz.1];exact hk))=true)
  (h2:l.sights.xs[k].height.lo<=x.heights.xs[k]'(by rw [hz.2.2];exact hk)) (h3:x.heights.xs[k]'(by rw [hz.2.2];exact hk)<=l.sights.xs[k].height.hi):okR x k:=by
 have hp:=hr.sp (List.getElem_mem (l:=l.sights.xs) (n:=k) hk);unfold okR okPt;rw [getElem!_pos x.points.xs k (by rw [hz.1];exact hk),getElem!_pos x.heights.xs k (by rw [hz.2.2];exact hk)];simp only [zeB,Bool.and_eq_true,decide_eq_true_eq] at h1;unfold okSp at hp;omega
theorem sh14:G.shared 14=false:=by decide
theorem e14 (n:Nat) (l:Life) (x:Lived) (hs:za5 l) (hc:x.course.xs.length < 1000) (hx:∀ t∈x.letters.xs,t.length<=20):zD G (n+7) 14 [.agg l.cells,.agg x.cells]=some (zb9 (zgh l x)):=by
 refine zo (zm _) rfl g14 rfl ?_
 obtain ⟨P,hPe⟩:∃ P,P=zb9 (zgh l x):=⟨_,rfl⟩
 rw [<- hPe];have hP:Hide _:=⟨hPe⟩
 clear hPe;have hgc:∀ H,zn (zg G (n+6)) H (.pure (.func 35 [])) [.pure (.agg l.cells),.pure (x.course.pv intF 1)]=some (.val (.pure (.int .i64 (zQ l x.course.xs)))):=fun H=>d35 n H l.habit.step l.habit.place l.habit.sink l.sights l.notes x.course hs hc;simp only [Life.cells] at hgc
 by_cases hg:zQ l x.course.xs=0
 case neg =>
  have hP2:P=.agg [.int .i64 0,.bool false,.int .i64 (zQ l x.course.xs)]:=by rw [hP.h];unfold zgh;rw [if_pos hg];rfl
  clear hP;(repeat' first|simp [*,zb,c14]|(apply za<;>intro _ h<;>try simp [-Nat.le_zero_eq] at h))
 obtain ⟨hr,hcl,hck⟩:=zbU hg
 by_cases hz:zdp l x
 case neg =>
  have hP2:P=.agg [.int .i64 0,.bool false,.int .i64 1]:=by rw [hP.h];unfold zgh;rw [if_neg (by simpa using hg),if_neg hz];rfl
  clear hP;rw [hg] at hgc;have hz':Hide (¬ zdp l x):=⟨hz⟩
  clear hz;(repeat' first|simp [*,zb,c14]|(apply za<;>intro _ h<;>try simp [-Nat.le_zero_eq] at h))
  all_goals
   exfalso;exact hz'.h ⟨by omega,by omega,by omega⟩
 have hP2:Hide (P=match zdO l x with
  | some k=>zb9 (l.sights.xs[k]!.id,false,0)
  | none=>match zdt l x with
   | some m=>zb9 (m.id,false,0)
   | none=>zb9 (0,true,0)):=⟨by
    rw [hP.h];unfold zgh;rw [if_neg (by simpa using hg),if_pos hz]
    cases zdO l x with
    | some k=>rfl
    | none=>cases zdt l x<;>rfl⟩
 rw [hg] at hgc;have hr':Hide (Right l):=⟨hr⟩
 have hz':Hide (zdp l x):=⟨hz⟩
 have hck':Hide (∀ k∈x.course.xs,0<=k/\k<=2):=⟨hck⟩
 have hx':Hide (∀ t∈x.letters.xs,t.length<=20):=⟨hx⟩
 clear hx;have h9:=hr.nine;have h20:=hr.notes;obtain ⟨z1,z2,z3⟩:=hz;clear hP hck hr;(repeat' first|simp [*,zb,c14]|(apply za<;>intro _ h<;>try simp [-Nat.le_zero_eq] at h))
 refine zF [(7,11),(45,107)] (fun (i:Nat) env H=>env 7=.pure (.int .i64 i)/\H.get 0=.cells true [.pure (.int .i64 0),.pure (.bool false),.pure (.int .i64 0)]/\i<=l.sights.xs.length/\Hide (zdO l x=((List.range l.sights.xs.length).drop i).find? fun k=>!seeS l x k)/\Hide (∀ j,j < i->seeS l x j=true)) (fun i=>l.sights.xs.length - i) 0 ?_ ?_ ?_ ?_
 ·decide
 ·exact ⟨by simp,by simp,by omega,⟨rfl⟩,⟨fun j hj=>by omega⟩⟩
 ·simp only [zB];omega
 rintro i env H ⟨h5,hget,hi,hf,hsee⟩;have hfit:i < 9223372036854775807:=by omega
 have hl0:=zq hget;have hn0:¬ 0=H.nx:=by omega
 have hget':∀ o,(H.alloc o).get 0=.cells true [.pure (.int .i64 0),.pure (.bool false),.pure (.int .i64 0)]:=fun o=>by rw [zy hl0];exact hget
 by_cases hlt:i < l.sights.xs.length
 ·have hp1:i < x.points.xs.length:=by omega
  have hp2:i < x.letters.xs.length:=by omega
  have hp3:i < x.heights.xs.length:=by omega
  have bad:seeS l x i=false->Hide (P=zb9 (l.sights.xs[i].id,false,0)):=fun h=>⟨by
   rw [hP2.h,hf.h,zf5 hlt,h];show zb9 (l.sights.xs[i]!.id,false,0)=_;rw [getElem!_pos l.sights.xs i hlt]⟩
  have good:seeS l x i=true->Hide (zdO l x=((List.range l.sights.xs.length).drop (i+1)).find? fun k=>!seeS l x k)/\Hide (∀ j,j < i+1->seeS l x j=true):=fun h=>⟨⟨by
   rw [hf.h,zf5 hlt,h];rfl⟩,⟨fun j hj=>by
    rcases Nat.lt_or_ge j i with h1|h1
    ·exact hsee.h j h1
    ·have:j=i:=by omega
     subst this;exact h⟩⟩
  have hat:=zku (l:=l) (x:=x) hlt hp1 hp2 hp3;have hled:seeA l.sights.xs[i] x.points.xs[i] x.letters.xs[i] x.heights.xs[i]=true->0 < i->Hide (∀ H,zn (zg G (n+6)) H (.pure (.func 45 [])) [.pure (.agg l.cells),.pure (.agg x.cells),.pure (.int .i64 (i:Int))]=some (.val (.pure (.bool (gapS l x i))))):=fun h h0=>⟨fun H=>by
   simp only [seeA,Bool.and_eq_true,decide_eq_true_eq] at h;exact d45 (n+3) H l.habit.step l.habit.place l.habit.sink l.sights l.notes x.points x.letters x.heights x.course i hr'.h ⟨z1,z2,z3,hcl,hck'.h⟩ h0 hlt (znU hr'.h hz'.h (by omega) (hsee.h _ (by omega))) (zm1 hr'.h hz'.h hlt h.1 h.2.2.1 h.2.2.2)⟩
  have a1:=zaD (f:=Pt.cells) (sz:=2) (k:=.i64) (s:=x.points) (n:=i) hp1;have a2:=zaD (f:=strF) (sz:=1) (k:=.i64) (s:=x.letters) (n:=i) hp2;have a3:=zaD (f:=intF) (sz:=1) (k:=.i64) (s:=x.heights) (n:=i) hp3;have a4:=zaD (f:=Sight.cells) (sz:=9) (k:=.i64) (s:=l.sights) (n:=i) hlt;have hlx:=hx'.h _ (List.getElem_mem hp2);have hls:=(hr'.h.sp (List.getElem_mem hlt)).2.2.2.2.2.2.2.2.2.2;generalize l.sights.xs[i]=s at *;generalize x.points.xs[i]=p at *;generalize x.letters.xs[i]=t at *;generalize x.heights.xs[i]=y at *;have c1:∀ H,zn (zg G (n+6)) H (.pure (.func 43 [])) [.pure (.agg s.box.cells),.pure (.agg p.cells)]=some (.val (.pure (.bool (zeB s.box p)))):=fun H=>d43 (n+2) H _ _ _ _ _ _;have c2:∀ H,zn (zg G (n+6)) H (.pure (.func 44 [])) [.pure (.str ⟨t.toArray⟩),.pure (.str ⟨s.letters.toArray⟩)]=some (.val (.pure (.bool (zca t&&zZ t s.letters)))):=fun H=>d44 (n+3) H t s.letters (by omega) (by omega);have hbb:(seeA s p t y=false/\Hide (P=zb9 (s.id,false,0)))\/(seeA s p t y=true/\0 < i/\gapS l x i=false/\Hide (P=zb9 (s.id,false,0)))\/(seeA s p t y=true/\(i=0\/0 < i/\gapS l x i=true)/\Hide (zdO l x=((List.range l.sights.xs.length).drop (i+1)).find? fun k=>!seeS l x k)/\Hide (∀ j,j < i+1->seeS l x j=true)):=by
   cases hA:seeA s p t y with
   | false=>exact .inl ⟨rfl,bad (by rw [hat,hA];rfl)⟩
   | true =>
    rcases Nat.eq_zero_or_pos i with h0|h0
    ·exact .inr (.inr ⟨rfl,.inl h0,good (by rw [hat,hA,h0];rfl)⟩)
    ·cases hB:gapS l x i with
     | false=>exact .inr (.inl ⟨rfl,h0,rfl,bad (by rw [hat,hA,hB];simp;omega)⟩)
     | true=>exact .inr (.inr ⟨rfl,.inr ⟨h0,rfl⟩,good (by rw [hat,hA,hB];simp)⟩)
  simp only [Box.cells] at c1;simp only [Pt.cells] at c1 a1;simp only [Sight.cells] at a4;simp only [Life.cells,Lived.cells] at hled;clear bad good hat hf;rcases hbb with ⟨hA,hB⟩|⟨hA,h0,hD,hB⟩|⟨hA,h0,hB,hC⟩
  ·clear hled;have hA':Hide (seeA s p t y=false):=⟨hA⟩
   clear hA;(repeat' first|simp [*,zb]|(apply za<;>intro _ h<;>try simp [-Nat.le_zero_eq] at h))
   all_goals first
    | exact hB.h.symm
    | exact hB.h
    | (exfalso;have hA2:=hA'.h;simp [seeA, *] at hA2;done)
    | skip
  ·have hl1:=(hled hA h0).h;clear hled;simp only [seeA,Bool.and_eq_true,decide_eq_true_eq] at hA;(repeat' first|simp [*,zb]|(apply za<;>intro _ h<;>try simp [-Nat.le_zero_eq] at h))
   all_goals first
    | exact hB.h.symm
    | exact hB.h
    | omega
    | skip
  ·simp only [seeA,Bool.and_eq_true,decide_eq_true_eq] at hA;rcases h0 with h0|⟨h0,hD⟩
   ·clear hled;have h0':Hide (i=0):=⟨h0⟩
    clear h0;(repeat' first|simp [*,zb]|(apply za<;>intro _ h<;>try simp [-Nat.le_zero_eq] at h))
    all_goals first
     | (exfalso;have:=h0'.h;omega)
     | exact ⟨i+1,by omega,by omega,by omega,hB,hC⟩
   ·have hl1:=(hled (by simp [seeA,hA]) h0).h;clear hled;(repeat' first|simp [*,zb]|(apply za<;>intro _ h<;>try simp [-Nat.le_zero_eq] at h));exact ⟨i+1,by omega,by omega,by omega,hB,hC⟩
 ·have hn:i=l.sights.xs.length:=by omega
  subst hn;have hns:zdO l x=none:=by rw [hf.h,ziK (by simp)]
  have hP3:Hide (P=match zdt l x with
   | some m=>zb9 (m.id,false,0)
   | none=>zb9 (0,true,0)):=⟨by rw [hP2.h,hns]⟩
  clear hP2 hsee hf hns hlt hi;(repeat' first|simp [*,zb]|(apply za<;>intro _ h<;>try simp [-Nat.le_zero_eq] at h))
  refine zF [(12,13),(108,132)] (fun (i:Nat) env H=>env 12=.pure (.int .i64 i)/\H.get 0=.cells true [.pure (.int .i64 0),.pure (.bool false),.pure (.int .i64 0)]/\i<=l.notes.xs.length/\Hide (zdt l x=(l.notes.xs.drop i).find? fun m=>!zao l.sights.xs m x.course.xs)) (fun i=>l.notes.xs.length - i) 0 ?_ ?_ ?_ ?_
  ·decide
  ·exact ⟨by simp,by simp [*],by omega,⟨rfl⟩⟩
  ·simp only [zB];omega
  rintro i env H ⟨h5,hget,hi,hf⟩;have hfit:i < 9223372036854775807:=by omega
  have hl0:=zq hget;have hn0:¬ 0=H.nx:=by omega
  have hget':∀ o,(H.alloc o).get 0=.cells true [.pure (.int .i64 0),.pure (.bool false),.pure (.int .i64 0)]:=fun o=>by rw [zy hl0];exact hget
  have hl3:l.sights.xs.length < 1000:=by omega
  have hcl2:x.course.xs.length+1<=l.sights.xs.length:=by omega
  by_cases hlt:i < l.notes.xs.length
  ·cases hm:zao l.sights.xs l.notes.xs[i] x.course.xs with
   | false =>
    have hB:Hide (P=zb9 (l.notes.xs[i].id,false,0)):=⟨by rw [hP3.h,hf.h,ze1 hlt,hm];rfl⟩
    (repeat' first|simp [*,zb]|(apply za<;>intro _ h<;>try simp [-Nat.le_zero_eq] at h));exact hB.h.symm
   | true =>
    have hB:Hide (zdt l x=(l.notes.xs.drop (i+1)).find? fun m=>!zao l.sights.xs m x.course.xs):=⟨by rw [hf.h,ze1 hlt,hm];rfl⟩
    (repeat' first|simp [*,zb]|(apply za<;>intro _ h<;>try simp [-Nat.le_zero_eq] at h));exact ⟨i+1,by omega,by omega,by omega,hB⟩
  ·have hn:i=l.notes.xs.length:=by omega
   subst hn;have hB:Hide (P=zb9 (0,true,0)):=⟨by rw [hP3.h,hf.h,ziK (Nat.le_refl _)]⟩
   clear hf hP3;(repeat' first|simp [*,zb]|(apply za<;>intro _ h<;>try simp [-Nat.le_zero_eq] at h));exact hB.h.symm
def zcp (s:Span) (v:Int):Int:=max s.lo (min s.hi v)
def exPt (b:List Box):Nat->Pt
 | 0=>⟨b[0]!.x.lo,b[0]!.y.lo⟩
 | k+1=>⟨zcp b[k+1]!.x (exPt b k).x,zcp b[k+1]!.y (exPt b k).y⟩
def exHt (h:List Span) (c:List Int):Nat->Int
 | 0=>h[0]!.hi
 | k+1=>if c[k]! = 0 then min h[k+1]!.hi (exHt h c k) else h[k+1]!.hi
def ptsE (b:List Box) (n:Nat):List Pt:=(List.range n).map (exPt b)
def htsE (h:List Span) (c:List Int) (n:Nat):List Int:=(List.range n).map (exHt h c)
def letE (t:List (List UInt8)) (n:Nat):List (List UInt8):=(List.range n).map fun k=>dotA t[k]!
def exV (t:TellR) (c:List Int) (n:Nat) (s:Sl Int):Lived:=⟨Sl.of (ptsE t.boxes n),Sl.of (letE t.letters n),Sl.of (htsE t.heights c n),s⟩
theorem zid (b:List Box) (n:Nat):(ptsE b n).length=n:=by simp [ptsE]
theorem zh7 (h:List Span) (c:List Int) (n:Nat):(htsE h c n).length=n:=by simp [htsE]
theorem zhz (t:List (List UInt8)) (n:Nat):(letE t n).length=n:=by simp [letE]
theorem zhC {b:List Box} {n k:Nat} (h:k < n):(ptsE b n)[k]! = exPt b k:=by rw [getElem!_pos _ k (by rw [zid];exact h)];simp [ptsE]
theorem zh1 {h:List Span} {c:List Int} {n k:Nat} (hk:k < n):(htsE h c n)[k]! = exHt h c k:=by rw [getElem!_pos _ k (by rw [zh7];exact hk)];simp [htsE]
theorem zj9 {t:List (List UInt8)} {n k:Nat} (h:k < n):(letE t n)[k]! = dotA t[k]! := by rw [getElem!_pos _ k (by rw [zhz];exact h)];simp [letE]
section
variable {R:Span->Prop} {on back:Nat->Span->Span} {l X:List Span}
structure ThruP (on back:Nat->Span->Span) (l X:List Span):Prop where
 len:X.length=l.length
 fullT:∀ j,j < l.length->full X[j]!
 subT:∀ j,j < l.length->sub X[j]! l[j]!
 onT:∀ j,j+1 < l.length->sub X[j+1]! (on j X[j]!)
 backT:∀ j,j+1 < l.length->sub X[j]! (back j X[j+1]!)
theorem zjV (g:Gaps R on back) (hR:∀ s∈l,R s) {m:Nat} (hm:m+1=l.length) (h:zaH on back l=some X):ThruP on back l X:=by
 have hf:∀ i,i < l.length->full (fN on l i):=by
  refine Classical.byContradiction fun hn=>?_
  have:∃ i,i < l.length/\¬ full (fN on l i):=by
   refine Classical.byContradiction fun hc=>hn fun i hi=>Classical.byContradiction fun h=>hc ⟨i,hi,h⟩
  rw [zeq (back:=back) this] at h
  cases h
 have e:X=bwdS back 0 (fL on l):=by
  rw [zeG (back:=back) hf] at h;exact (Option.some.inj h).symm
 have hp:=zjh g hR hm hf;have hb:∀ j,X[j]! = bN back (fL on l) j:=fun j=>by rw [e];rfl
 refine ⟨by rw [e,zav,zd2],fun j hj=>?_,fun j hj=>?_,fun j hj=>?_,fun j hj=>?_⟩
 ·rw [hb];exact (hp (m - j) j (by omega)).1
 ·rw [hb]
  refine zaG (hp (m - j) j (by omega)).2.1 ?_
  cases j with
  | zero=>exact zb1 _
  | succ j=>rw [fN];exact zbg _ _
 ·rw [hb,hb];exact ((hp (m - j) j (by omega)).2.2 hj).1
 ·rw [hb,hb];exact ((hp (m - j) j (by omega)).2.2 hj).2
end
def refL:List UInt8->List UInt8->Bool
 | [],[]=>true
 | a::t,b::p=>(decide (b=46)||decide (a=b))&&refL t p
 | _,_=>false
theorem ze2:∀ t,refL t t=true
 | []=>rfl
 | a::t=>by simp [refL,ze2 t]
theorem zeo:∀ {t p q:List UInt8},refL t p=true->refL p q=true->refL t q=true
 | [],[],[],_,_=>rfl
 | a::t,b::p,c::q,h1,h2=>by
  simp only [refL,Bool.and_eq_true,Bool.or_eq_true,decide_eq_true_eq] at h1 h2 ⊢
  refine ⟨?_,zeo h1.2 h2.2⟩
  rcases h2.1 with h|h
  ·exact .inl h
  ·rcases h1.1 with h'|h'
   ·exact .inl (by rw [<- h,h'])
   ·exact .inr (h'.trans h)
 | [],[],_::_,_,h=>by simp [refL] at h
 | [],_::_,_,h,_=>by simp [refL] at h
 | _::_,[],_,h,_=>by simp [refL] at h
 | _::_,_::_,[],_,h=>by simp [refL] at h
theorem zkN {b:UInt8}:((b.toNat:Int)=46)↔b=46:=by
 constructor
 ·intro h;have:b.toNat=(46:UInt8).toNat:=by show b.toNat=46;omega
  exact UInt8.toNat_inj.1 this
 ·rintro rfl;rfl
theorem znm {a b:UInt8}:((a.toNat:Int)=b.toNat)↔a=b:=by
 constructor
 ·intro h;exact UInt8.toNat_inj.1 (by omega)
 ·rintro rfl;rfl
theorem ziF:∀ {p q:List UInt8},p.length=q.length->zbe p q=true->refL (mixL p q) p=true/\refL (mixL p q) q=true/\(allC true p=true->allC true q=true->allC true (mixL p q)=true)/\(mixL p q).length=p.length
 | [],[],_,_=>⟨rfl,rfl,fun _ _=>rfl,rfl⟩
 | a::p,b::q,hl,h=>by
  simp only [zbe,Bool.and_eq_true] at h;obtain ⟨i1,i2,i3,i4⟩:=ziF (p:=p) (q:=q) (by simpa using hl) h.2;have h1:a=b\/a=46\/b=46:=by
   have:=h.1;simp only [Bool.not_eq_true',Bool.and_eq_false_iff,Bool.not_eq_false',decide_eq_true_eq,zkN,znm] at this;rcases this with (h|h)|h
   ·exact .inl h
   ·exact .inr (.inl h)
   ·exact .inr (.inr h)
  simp only [mixL,refL,allC,Bool.and_eq_true,Bool.or_eq_true,decide_eq_true_eq,i1,i2,and_true,zkN,List.length_cons,i4]
  refine ⟨?_,?_,fun h3 h4=>⟨?_,i3 h3.2 h4.2⟩⟩
  ·split
   ·rename_i e;exact .inl e
   ·exact .inr rfl
  ·split
   ·exact .inr rfl
   ·rename_i e;rcases h1 with h|h|h
    ·exact .inr h
    ·exact absurd h e
    ·exact .inl h
  ·split
   ·exact h4.1
   ·exact h3.1
 | [],_::_,h,_=>by simp at h
 | _::_,[],h,_=>by simp at h
theorem zgr:∀ {t p:List UInt8},allC true t=true->refL t p=true->zca (dotA t)=true/\zbe (dotA t) p=true/\allC true (dotA t)=true/\(dotA t).length=p.length
 | [],[],_,_=>⟨rfl,rfl,rfl,rfl⟩
 | a::t,b::p,hc,h=>by
  simp only [allC,Bool.and_eq_true] at hc;simp only [refL,Bool.and_eq_true,Bool.or_eq_true,decide_eq_true_eq] at h;obtain ⟨i1,i2,i3,i4⟩:=zgr (t:=t) (p:=p) hc.2 h.2;have i1':zca (List.map dotC t)=true:=i1;have i2':zbe (List.map dotC t) p=true:=i2;have i3':allC true (List.map dotC t)=true:=i3;have i4':(List.map dotC t).length=p.length:=i4;have hd:dotC a≠46:=by unfold dotC;split;decide;assumption
  simp only [dotA,List.map_cons,zca,zbe,allC,Bool.and_eq_true,i1',i2',i3',and_true,List.length_cons,i4']
  refine ⟨?_,?_,?_⟩
  ·simp only [Bool.not_eq_true',decide_eq_false_iff_not,zkN];exact hd
  ·simp only [Bool.not_eq_true',Bool.and_eq_false_iff,Bool.not_eq_false',decide_eq_true_eq,zkN,znm];rcases h.1 with h|h
   ·exact .inr h
   ·by_cases e:a=46
    ·exact .inr (h ▸ e)
    ·refine .inl (.inl ?_)
     unfold dotC;rw [if_neg e];exact h
  ·unfold dotC
   split
   ·rfl
   ·exact hc.1
 | [],_::_,_,h=>by simp [refL] at h
 | _::_,[],_,h=>by simp [refL] at h
structure GoP (p:List UInt8) (m:Nat) (r:List (Int×List UInt8)) (t:List (List UInt8)):Prop where
 len:t.length=m+r.length
 head:∀ i,i < m->patR t[i]! = true/\refL t[i]! p=true
 rest:∀ i,i < r.length->patR t[m+i]! = true/\refL t[m+i]! r[i]!.2=true
 run:∀ i,i+1 < m->t[i]! = t[i+1]!
 gap:∀ i,i < r.length->r[i]!.1≠2->t[m+i-1]! = t[m+i]!
theorem zmM {p q:List UInt8} (hp:patR p=true) (h:zZ p q=true):patR (mixL p q)=true/\refL (mixL p q) p=true/\refL (mixL p q) q=true:=by
 simp only [zZ,patR,Bool.and_eq_true,decide_eq_true_eq] at h hp;obtain ⟨⟨⟨h1,h2⟩,h3⟩,h4⟩:=h;obtain ⟨a1,a2,a3,a4⟩:=ziF (p:=p) (q:=q) (by omega) h4
 refine ⟨?_,a1,a2⟩
 simp only [patR,Bool.and_eq_true,decide_eq_true_eq,a4];exact ⟨⟨a3 h1.1.1 h2.1.1,h1.1.2⟩,h1.2⟩
theorem zlv:∀ (r:List (Int×List UInt8)) (p:List UInt8) (m:Nat) (t:List (List UInt8)),1<=m->patR p=true->(∀ x∈r,patR x.2=true)->goL p m r=some t->GoP p m r t
 | [],p,m,t,hm,hp,_,h=>by
  simp only [goL,Option.some.injEq] at h;subst h;have at_:∀ i,i < m->(List.replicate m p)[i]! = p:=fun i hi=>by rw [getElem!_pos _ i (by simpa using hi)];simp
  exact ⟨by simp,fun i hi=>by rw [at_ i hi];exact ⟨hp,ze2 _⟩,fun i hi=>by simp at hi,fun i hi=>by rw [at_ i (by omega),at_ (i+1) hi],fun i hi=>by simp at hi⟩
 | (k,u)::r,p,m,t,hm,hp,hr,h=>by
  have hu:patR u=true:=hr (k,u) List.mem_cons_self;have hr':∀ x∈r,patR x.2=true:=fun x hx=>hr x (List.mem_cons_of_mem _ hx)
  by_cases hk:k=2
  ·simp only [goL,if_pos hk,Option.map_eq_some_iff] at h;obtain ⟨t',ht',rfl⟩:=h;have g:=zlv r u 1 t' (Nat.le_refl _) hu hr' ht';have hl:=g.len;have a1:∀ i,i < m->(List.replicate m p++t')[i]! = p:=fun i hi=>by
    rw [getElem!_pos _ i (by simp;omega),List.getElem_append_left (by simpa using hi)];simp
   have a2:∀ i,i < t'.length->(List.replicate m p++t')[m+i]! = t'[i]! := fun i hi=>by
    rw [getElem!_pos _ (m+i) (by simp;omega),getElem!_pos t' i hi,List.getElem_append_right (by simp)];simp
   refine ⟨by simp [hl];omega,fun i hi=>by rw [a1 i hi];exact ⟨hp,ze2 _⟩,fun i hi=>?_,fun i hi=>by rw [a1 i (by omega),a1 (i+1) hi],fun i hi hne=>?_⟩
   ·cases i with
    | zero=>rw [a2 0 (by omega)];exact g.head 0 (by omega)
    | succ i =>
     have:=g.rest i (by simpa using hi);simp only [List.length_cons] at hi;rw [a2 (i+1) (by omega),Nat.add_comm i 1];rw [show 1+i=i+1 by omega] at this ⊢
     simpa using this
   ·cases i with
    | zero=>simp at hne;exact absurd hk hne
    | succ i =>
     have h2:=g.gap i (by simpa using hi) (by simpa using hne);simp only [List.length_cons] at hi;rw [show m+(i+1) - 1=m+i by omega,a2 i (by omega),a2 (i+1) (by omega)];rw [show 1+i - 1=i by omega,show 1+i=i+1 by omega] at h2;exact h2
  ·simp only [goL,if_neg hk] at h
   split at h
   ·rename_i hag;obtain ⟨b1,b2,b3⟩:=zmM hp hag;have g:=zlv r (mixL p u) (m+1) t (by omega) b1 hr' h
    refine ⟨by rw [g.len];simp;omega,fun i hi=>?_,fun i hi=>?_,fun i hi=>g.run i (by omega),fun i hi hne=>?_⟩
    ·obtain ⟨c1,c2⟩:=g.head i (by omega);exact ⟨c1,zeo c2 b2⟩
    ·cases i with
     | zero =>
      obtain ⟨c1,c2⟩:=g.head m (by omega);exact ⟨c1,zeo c2 b3⟩
     | succ i =>
      have:=g.rest i (by simpa using hi);rw [show m+1+i=m+(i+1) by omega] at this
      simpa using this
    ·cases i with
     | zero =>
      have:=g.run (m - 1) (by omega);rw [show m - 1+1=m by omega] at this
      simpa using this
     | succ i =>
      have:=g.gap i (by simpa using hi) (by simpa using hne);rw [show m+1+i - 1=m+(i+1) - 1 by omega,show m+1+i=m+(i+1) by omega] at this;exact this
   ·cases h
structure TellP (l:Life) (c:List Int) (t:TellR):Prop where
 right:Right l
 len:c.length+1=l.sights.xs.length
 notes:∀ m∈l.notes.xs,zao l.sights.xs m c=true
 x:∃ X Y,ThruP (onX l c) (onX l c) (l.sights.xs.map (·.box.x)) X/\ThruP (onX l c) (onX l c) (l.sights.xs.map (·.box.y)) Y/\t.boxes=X.zipWith Box.mk Y
 h:ThruP (onH l c) (za9 l c) (l.sights.xs.map (·.height)) t.heights
 ls:GoP (l.sights.xs[0]!).letters 1 (zaE l.sights.xs c) t.letters
theorem zjU {l:Life} {c:List Int} {t:TellR} (hg:zQ l c=0) (ht:zaQ l c=some t):TellP l c t:=by
 obtain ⟨hr,hc,hk⟩:=zbU hg;have h1:=hr.one;unfold zaQ at ht
 split at ht
 case isFalse=>cases ht
 rename_i hn
 cases hX:thX l c with
 | none=>rw [hX] at ht;simp at ht
 | some X =>
  cases hY:thY l c with
  | none=>rw [hX,hY] at ht;simp at ht
  | some Y =>
   cases hH:thH l c with
   | none=>rw [hX,hY,hH] at ht;simp at ht
   | some H =>
    cases hT:zae l.sights.xs c with
    | none=>rw [hX,hY,hH,hT] at ht;simp at ht
    | some T =>
     rw [hX,hY,hH,hT] at ht;simp only [Option.some.injEq] at ht;subst ht
     refine ⟨hr,hc,allL_iff.1 hn,⟨X,Y,zjV (zkC hr c) (fun _ _=>trivial) (m:=c.length) (by simpa using hc) hX,zjV (zkC hr c) (fun _ _=>trivial) (m:=c.length) (by simpa using hc) hY,rfl⟩,
      zjV (zne hr c) (fun s hs=>?_) (m:=c.length) (by simpa using hc) hH,?_⟩
     ·obtain ⟨u,hu,rfl⟩:=List.mem_map.1 hs;have:=hr.sp hu;exact ⟨this.2.2.2.1,this.2.2.2.2.1⟩
     ·have hp:∀ s∈l.sights.xs,patR s.letters=true:=fun s hs=>by
       have:=hr.sight s hs;simp only [zbW,Bool.and_eq_true] at this;exact this.1.2
      unfold zae za7 at hT;rw [dif_pos (by omega),List.drop_zero] at hT;have e0:l.sights.xs[0]! = l.sights.xs[0]'(by omega):=getElem!_pos _ 0 (by omega);rw [e0]
      refine zlv _ _ 1 T (Nat.le_refl _) (hp _ (List.getElem_mem _)) (fun x hx=>?_) hT
      have h2:=(List.of_mem_zip hx).2;have h3:x.2∈lets l.sights.xs:=List.mem_of_mem_tail h2;obtain ⟨u,hu,e⟩:=List.mem_map.1 h3;rw [<- e];exact hp u hu
section
variable {l:Life} {c:List Int} {t:TellR}
theorem TellP.box (h:TellP l c t) {k:Nat} (hk:k < l.sights.xs.length):full t.boxes[k]!.x/\full t.boxes[k]!.y/\sub t.boxes[k]!.x l.sights.xs[k]!.box.x/\sub t.boxes[k]!.y l.sights.xs[k]!.box.y /\
  (k+1 < l.sights.xs.length->sub t.boxes[k]!.x (onD (farD l.habit c[k]!) t.boxes[k+1]!.x)/\sub t.boxes[k]!.y (onD (farD l.habit c[k]!) t.boxes[k+1]!.y)):=by
 obtain ⟨X,Y,hX,hY,e⟩:=h.x;have lX:X.length=l.sights.xs.length:=by simpa using hX.len
 have lY:Y.length=l.sights.xs.length:=by simpa using hY.len
 have at_:∀ j,j < l.sights.xs.length->t.boxes[j]! = ⟨X[j]!,Y[j]!⟩:=fun j hj=>by
  rw [e,getElem!_pos _ j (by simp;omega),getElem!_pos X j (by omega),getElem!_pos Y j (by omega)];simp
 have mx:(l.sights.xs.map (·.box.x))[k]! = l.sights.xs[k]!.box.x:=by rw [getElem!_pos _ k (by simpa using hk),getElem!_pos l.sights.xs k hk];simp
 have my:(l.sights.xs.map (·.box.y))[k]! = l.sights.xs[k]!.box.y:=by rw [getElem!_pos _ k (by simpa using hk),getElem!_pos l.sights.xs k hk];simp
 rw [at_ k hk]
 refine ⟨hX.fullT k (by simpa using hk),hY.fullT k (by simpa using hk),by rw [<- mx];exact hX.subT k (by simpa using hk),by rw [<- my];exact hY.subT k (by simpa using hk),fun hk1=>?_⟩
 rw [at_ (k+1) hk1];exact ⟨hX.backT k (by simpa using hk1),hY.backT k (by simpa using hk1)⟩
theorem TellP.pt (h:TellP l c t):∀ k,k < l.sights.xs.length->t.boxes[k]!.x.lo<=(exPt t.boxes k).x/\(exPt t.boxes k).x<=t.boxes[k]!.x.hi/\t.boxes[k]!.y.lo<=(exPt t.boxes k).y/\(exPt t.boxes k).y<=t.boxes[k]!.y.hi:=fun k hk=>by
 obtain ⟨f1,f2,_⟩:=h.box hk;unfold full at f1 f2
 cases k with
 | zero=>simp only [exPt];omega
 | succ k=>simp only [exPt,zcp];omega
theorem TellP.near (h:TellP l c t) {k:Nat} (hk:k+1 < l.sights.xs.length):ziy (exPt t.boxes k) (exPt t.boxes (k+1)) (farD l.habit c[k]!)=true:=by
 have p:=h.pt k (by omega);obtain ⟨f1,f2,_⟩:=h.box hk;obtain ⟨_,_,_,_,g⟩:=h.box (k:=k) (by omega);obtain ⟨⟨g1,g2⟩,g3,g4⟩:=g hk;clear g;have hd:=zdo (k:=c[k]!) h.right.habit;generalize farD l.habit c[k]! = d at *;unfold full at f1 f2;simp only [onD] at g1 g2 g3 g4;unfold ziy;simp only [Bool.and_eq_true,decide_eq_true_eq];have ex:(exPt t.boxes (k+1)).x=zcp t.boxes[k+1]!.x (exPt t.boxes k).x:=rfl;have ey:(exPt t.boxes (k+1)).y=zcp t.boxes[k+1]!.y (exPt t.boxes k).y:=rfl;rw [ex,ey];unfold zcp;omega
theorem TellP.ht (h:TellP l c t) {k:Nat} (hk:k < l.sights.xs.length):full t.heights[k]! /\ sub t.heights[k]! l.sights.xs[k]!.height/\(k+1 < l.sights.xs.length->sub t.heights[k]! (zcF l.habit c[k]! (yrS l.sights.xs k) t.heights[k+1]!)):=by
 have hH:=h.h;have mx:(l.sights.xs.map (·.height))[k]! = l.sights.xs[k]!.height:=by rw [getElem!_pos _ k (by simpa using hk),getElem!_pos l.sights.xs k hk];simp
 refine ⟨hH.fullT k (by simpa using hk),by rw [<- mx];exact hH.subT k (by simpa using hk),fun hk1=>?_⟩
 have:=hH.backT k (by simpa using hk1);unfold za9 at this;rwa [if_pos hk1] at this
theorem TellP.hin (h:TellP l c t):∀ k,k < l.sights.xs.length->t.heights[k]!.lo<=exHt t.heights c k/\exHt t.heights c k<=t.heights[k]!.hi
 | 0,hk=>by
  have f:=(h.ht hk).1;unfold full at f;simp only [exHt];omega
 | k+1,hk=>by
  have f:=(h.ht hk).1;have ih:=h.hin k (by omega);have g:=(h.ht (k:=k) (by omega)).2.2 hk;unfold full at f;simp only [exHt]
  split
  ·rename_i hc;unfold zcF sub at g;rw [if_pos hc] at g;simp only at g;omega
  ·omega
theorem TellP.fall (h:TellP l c t) {k:Nat} (hk:k+1 < l.sights.xs.length) (hc:c[k]! = 0):0<=exHt t.heights c k - exHt t.heights c (k+1)/\exHt t.heights c k - exHt t.heights c (k+1)<=l.habit.sink*yrS l.sights.xs k:=by
 have i1:=h.hin k (by omega);have g:=(h.ht (k:=k) (by omega)).2.2 hk;have hy:=h.right.yr hk;have hyr:yrS l.sights.xs k=l.sights.xs[k+1].year - l.sights.xs[k].year:=by rw [yrS,getElem!_pos _ k (by omega),getElem!_pos _ (k+1) hk]
 have hs:=(zdw (y:=yrS l.sights.xs k) h.right.habit (by rw [hyr];exact hy)).1;unfold zcF sub at g;rw [if_pos hc] at g;simp only at g;simp only [exHt,if_pos hc];generalize l.habit.sink*yrS l.sights.xs k=z at *;omega
theorem TellP.reads (h:TellP l c t) {k:Nat} (hk:k < l.sights.xs.length):zca (dotA t.letters[k]!)=true/\zZ (dotA t.letters[k]!) l.sights.xs[k]!.letters=true:=by
 have hg:=h.ls;have hl:=h.len;have hgl:(zaE l.sights.xs c).length=c.length:=by simp [zaE,lets];omega
 have key:patR t.letters[k]! = true/\refL t.letters[k]! l.sights.xs[k]!.letters=true:=by
  cases k with
  | zero=>exact hg.head 0 (by omega)
  | succ k =>
   have:=hg.rest k (by omega);have e2:(zaE l.sights.xs c)[k]!.2=l.sights.xs[k+1]!.letters:=by
    rw [getElem!_pos _ k (by omega),getElem!_pos _ (k+1) hk];simp [zaE,lets]
   rw [e2,Nat.add_comm 1 k] at this;exact this
 have hp:patR l.sights.xs[k]!.letters=true:=by
  rw [getElem!_pos _ k hk];have:=h.right.sight _ (List.getElem_mem hk);simp only [zbW,Bool.and_eq_true] at this;exact this.1.2
 obtain ⟨k1,k2⟩:=key;have kc:allC true t.letters[k]! = true:=by
  simp only [patR,Bool.and_eq_true] at k1;exact k1.1.1
 obtain ⟨r1,r2,r3,r4⟩:=zgr kc k2
 refine ⟨r1,?_⟩
 simp only [zZ,patR,Bool.and_eq_true,decide_eq_true_eq] at hp ⊢
 refine ⟨⟨⟨⟨⟨r3,?_⟩,?_⟩,hp⟩,?_⟩,r2⟩<;>rw [r4]<;>omega
theorem TellP.same (h:TellP l c t) {k:Nat} (hk:k+1 < l.sights.xs.length) (hc:c[k]! ≠ 2):t.letters[k]! = t.letters[k+1]! := by
 have hg:=h.ls;have hl:=h.len;have hgl:(zaE l.sights.xs c).length=c.length:=by simp [zaE,lets];omega
 have e3:(zaE l.sights.xs c)[k]!.1=c[k]! := by
  rw [getElem!_pos _ k (by omega),getElem!_pos c k (by omega)];simp [zaE]
 have:=hg.gap k (by omega) (by rw [e3];exact hc);rwa [show 1+k - 1=k by omega,Nat.add_comm 1 k] at this
theorem TellP.see (h:TellP l c t) (s:Sl Int) (hs:s.xs=c) {k:Nat} (hk:k < l.sights.xs.length):seeS l (exV t c l.sights.xs.length s) k=true:=by
 unfold seeS;have e1:(exV t c l.sights.xs.length s).points.xs=ptsE t.boxes l.sights.xs.length:=Sl.xs_of _;have e2:(exV t c l.sights.xs.length s).letters.xs=letE t.letters l.sights.xs.length:=Sl.xs_of _;have e3:(exV t c l.sights.xs.length s).heights.xs=htsE t.heights c l.sights.xs.length:=Sl.xs_of _;have e4:(exV t c l.sights.xs.length s).course.xs=c:=hs;rw [e1,e2,e3,zhC hk,zj9 hk,zh1 hk,Bool.and_eq_true]
 constructor
 ·have p:=h.pt k hk;obtain ⟨_,_,b1,b2,_⟩:=h.box hk;have i1:=h.hin k hk;have i2:=(h.ht hk).2.1;obtain ⟨r1,r2⟩:=h.reads hk;have hp:zcS l.sights.xs[k]!.box=true:=by
   rw [zdS,getElem!_pos _ k hk];have:=h.right.sight _ (List.getElem_mem hk);simp only [zbW,Bool.and_eq_true] at this;exact this.1.1.2
  unfold sub at b1 b2 i2;simp only [seeA,zeB,Bool.and_eq_true,decide_eq_true_eq,hp,r1,r2,true_and,and_true];omega
 ·cases k with
  | zero=>rfl
  | succ k =>
   rw [Bool.or_eq_true];right;unfold gapS;rw [e1,e2,e3,e4,show k+1 - 1=k by omega,zhC hk,zhC (k:=k) (by omega),zj9 hk,zj9 (k:=k) (by omega),zh1 hk,zh1 (k:=k) (by omega)];have hn:=h.near hk;unfold gapP
   by_cases hc:c[k]! = 0
   ·have hfa:=h.fall hk hc;have hsa:=h.same hk (by omega);have hf0:farD l.habit c[k]! = 0:=by unfold farD;rw [hc];simp
    rw [hf0] at hn;simp only [ziy,Bool.and_eq_true,decide_eq_true_eq] at hn;unfold yrS at hfa;rw [if_pos hc,hsa];simp only [Bool.and_eq_true,decide_eq_true_eq];exact ⟨⟨by omega,trivial⟩,hfa⟩
   ·rw [if_neg hc,hn,Bool.and_true]
    by_cases h2:c[k]! = 2
    ·simp [h2]
    ·rw [h.same hk h2];simp
theorem zmS (hg:zQ l c=0) (ht:zaQ l c=some t) (s:Sl Int) (hs:s.xs=c):zgh l (exV t c l.sights.xs.length s)=(0,true,0):=by
 have h:=zjU hg ht;have hz:zdp l (exV t c l.sights.xs.length s):=⟨by rw [show (exV t c l.sights.xs.length s).points.xs=ptsE t.boxes l.sights.xs.length from Sl.xs_of _];exact zid _ _,by rw [show (exV t c l.sights.xs.length s).letters.xs=letE t.letters l.sights.xs.length from Sl.xs_of _];exact zhz _ _,by rw [show (exV t c l.sights.xs.length s).heights.xs=htsE t.heights c l.sights.xs.length from Sl.xs_of _];exact zh7 _ _ _⟩
 have e4:(exV t c l.sights.xs.length s).course.xs=c:=hs;have hb:zdO l (exV t c l.sights.xs.length s)=none:=List.find?_eq_none.2 fun k hk=>by rw [h.see s hs (List.mem_range.1 hk)];decide
 have hn:zdt l (exV t c l.sights.xs.length s)=none:=List.find?_eq_none.2 fun m hm=>by rw [e4,h.notes m hm];decide
 unfold zgh;rw [e4,if_neg (by simp [hg]),if_pos hz,hb,hn]
end
set_option maxHeartbeats 8000000
set_option maxRecDepth 4000
theorem sh33:G.shared 33=false:=by decide
theorem e33 (n:Nat) (v:Int) (s:Span):zD G (n+1) 33 [.int .i64 v,.agg s.cells]=some (.int .i64 (zcp s v)):=by
 refine zo (zm _) rfl g33 rfl ?_
 (repeat' first|simp [*,zb,c33,zcp]|(apply za<;>intro _ h<;>try simp [-Nat.le_zero_eq] at h))
@[simp] theorem d33 (n:Nat) (H:Heap) (v:Int) (s_lo:Int) (s_hi:Int):zn (zg G (n+1)) H (.pure (.func 33 [])) [.pure (.int .i64 v),.pure (.agg [.int .i64 s_lo,.int .i64 s_hi])]=some (.val (.pure ((fun (s:Span)=>.int .i64 (zcp s v)) (⟨s_lo,s_hi⟩:Span)))) :=
 zh (ps:=[_,_]) (caps:=[]) sh33 (e33 n v (⟨s_lo,s_hi⟩:Span))
theorem zmK (s:ByteArray) (h:s.size<=20):zie s ⟨#[46]⟩ ⟨#[65]⟩:=by
 have h1:=Go.Lib.countB_mul_le ⟨#[46]⟩ (by decide) s.size s (Nat.le_refl _);have e1:(⟨#[46]⟩:ByteArray).size=1:=rfl;have e2:(⟨#[65]⟩:ByteArray).size=1:=rfl;rw [e1] at h1
 refine ⟨by omega,by rw [e1];omega,by rw [e2];omega⟩
theorem zmU:G.shared 34=false:=by decide
theorem zle (n:Nat) (t:List UInt8) (h:t.length<=20):zD G (n+1) 34 [.str ⟨t.toArray⟩,.str ⟨#[46]⟩,.str ⟨#[65]⟩]=some (.str ⟨(dotA t).toArray⟩):=by
 unfold zD;rw [zm];have hr:G.extRun 34 [.pure (.str ⟨t.toArray⟩),.pure (.str ⟨#[46]⟩),.pure (.str ⟨#[65]⟩)] Heap.empty=some (.pure (.str ⟨(dotA t).toArray⟩),Heap.empty):=by
  have hG:∀ xs H,G.extRun 34 xs H=zer xs H:=fun xs H=>by simp [G]
  rw [hG];unfold zer;simp only;rw [if_pos (zmK _ (by show t.toArray.size<=20;simpa using h))];have e:Go.Lib.replaceAll t.toArray.toList [46] [65]=dotA t:=by rw [List.toList_toArray];exact zfA t
  show some (AV.pure (.str ⟨(Go.Lib.replaceAll t.toArray.toList [46] [65]).toArray⟩),Heap.empty)=_;rw [e]
 simp only [List.map_cons,List.map_nil];rw [zfy,hr];rfl
def zbH (c:Sl Int):Sl Int:=match c with
 | .nil=>.nil
 | .mk _ l=>.mk false l
theorem zlk (c:Sl Int):(zbH c).xs=c.xs:=by cases c<;>rfl
theorem zlp {n:Nat} {H:Heap} {v:AV} {c:Sl Int} (h:OwnV intF 1 H v c.xs) (hn:isNil .slice v=some c.isNil):FrzK H false (n+2) v ((zbH c).pv intF 1):=by
 rcases h with ⟨h1,rfl⟩|⟨id,rfl,hg⟩
 ·cases c with
  | nil=>exact .pure _
  | mk hot l=>simp [isNil,Sl.isNil] at hn
 ·cases c with
  | nil=>simp [isNil,Sl.isNil] at hn
  | mk hot l=>exact zex (f:=intF) (sz:=1) (fun _=>rfl) hg rfl
theorem zkc {α:Type} {f:α->List PV} {sz id off:Nat} {H:Heap} {v:AV} {l:List α} (h:OwnV f sz H v l) (hn:¬ Names v id):zcK v (.box id off)=true:=by
 rcases h with ⟨_,rfl⟩|⟨rid,rfl,_⟩
 ·rfl
 ·simp only [zcK,bne_iff_ne,ne_eq];exact fun e=>hn ⟨_,_,_,by rw [e]⟩
def exE (l:Life) (c:Sl Int):PV:=if zQ l c.xs=0 then (match zaQ l c.xs with
 | some t=>.tup [.agg (exV t c.xs l.sights.xs.length (zbH c)).cells,.int .i64 0]
 | none=>.tup [.agg [.nils,.nils,.nils,.nils],.int .i64 9]) else .tup [.agg [.nils,.nils,.nils,.nils],.int .i64 (zQ l c.xs)]
structure ExI (t:TellR) (H:Heap) (X:Nat) (w1 w2 w3 va vb vd vc:AV) (A:List Pt) (B:List Int) (D:List (List UInt8)) (C:List Int):Prop where
 k0:H.get 0=.cells true [.pure .nils,.pure .nils,.pure .nils,.pure .nils]
 k1:H.get 1=.cells true [.pure ((Sl.of t.boxes).pv Box.cells 4),.pure ((Sl.of t.heights).pv Span.cells 2),.pure ((Sl.of t.letters).pv strF 1)]
 kX:H.get X=.cells true [w1,w2,w3,vc]
 x2:2<=X
 ga:GrowV Pt.cells 2 H va A
 gb:GrowV intF 1 H vb B
 gd:GrowV strF 1 H vd D
 oc:OwnV intF 1 H vc C
 dis:(∀ id,Names vb id->¬ Names va id)/\(∀ id,Names vd id->¬ Names va id)/\(∀ id,Names vd id->¬ Names vb id)/\(∀ id,Names vc id->¬ Names va id)/\(∀ id,Names vc id->¬ Names vb id)/\(∀ id,Names vc id->¬ Names vd id)
 n0:¬ Names va 0/\¬ Names vb 0/\¬ Names vd 0/\¬ Names vc 0
 n1:¬ Names va 1/\¬ Names vb 1/\¬ Names vd 1/\¬ Names vc 1
 nX:¬ Names va X/\¬ Names vb X/\¬ Names vd X/\¬ Names vc X
section
variable {t:TellR} {H:Heap} {X:Nat} {w1 w2 w3 va vb vd vc:AV} {A:List Pt} {B:List Int} {D:List (List UInt8)} {C:List Int}
theorem OwnV.setO {α:Type} {f:α->List PV} {sz:Nat} {v:AV} {l:List α} {id:Nat} (h:OwnV f sz H v l) (hn:¬ Names v id) (o:AObj):OwnV f sz (H.set id o) v l :=
 h.keep fun i ⟨k,hk⟩=>zu fun e=>hn (e ▸ ⟨_,_,_,hk⟩)
theorem ExI.alloc (h:ExI t H X w1 w2 w3 va vb vd vc A B D C) (o:AObj):ExI t (H.alloc o) X w1 w2 w3 va vb vd vc A B D C :=
 ⟨by rw [zy (zq h.k0)];exact h.k0,by rw [zy (zq h.k1)];exact h.k1,by rw [zy (zq h.kX)];exact h.kX,h.x2,h.ga.alloc _,h.gb.alloc _,h.gd.alloc _,h.oc.alloc _,h.dis,h.n0,h.n1,h.nX⟩
theorem ExI.lt (h:ExI t H X w1 w2 w3 va vb vd vc A B D C):0 < H.nx/\1 < H.nx/\X < H.nx:=⟨zq h.k0,zq h.k1,zq h.kX⟩
theorem ExI.fresh (h:ExI t H X w1 w2 w3 va vb vd vc A B D C) {id:Nat} (hi:H.nx<=id):¬ Names va id/\¬ Names vb id/\¬ Names vd id/\¬ Names vc id :=
 ⟨h.ga.1.fresh _ hi,h.gb.1.fresh _ hi,h.gd.1.fresh _ hi,h.oc.fresh _ hi⟩
theorem ExI.setF (h:ExI t H X w1 w2 w3 va vb vd vc A B D C) {id:Nat} (hid:1 < id/\id≠X) (hn:¬ Names va id/\¬ Names vb id/\¬ Names vd id/\¬ Names vc id) (o:AObj):ExI t (H.set id o) X w1 w2 w3 va vb vd vc A B D C :=
 ⟨by rw [zu (by omega)];exact h.k0,by rw [zu (by omega)];exact h.k1,by rw [zu (Ne.symm hid.2)];exact h.kX,h.x2,h.ga.set hn.1 _,h.gb.set hn.2.1 _,h.gd.set hn.2.2.1 _,h.oc.setO hn.2.2.2 _,h.dis,h.n0,h.n1,h.nX⟩
theorem ExI.setX (h:ExI t H X w1 w2 w3 va vb vd vc A B D C) (y1 y2 y3:AV):ExI t (H.set X (.cells true [y1,y2,y3,vc])) X y1 y2 y3 va vb vd vc A B D C:=by
 have x2:=h.x2;exact ⟨by rw [zu (by omega)];exact h.k0,by rw [zu (by omega)];exact h.k1,zU (zq h.kX),h.x2,h.ga.set h.nX.1 _,h.gb.set h.nX.2.1 _,h.gd.set h.nX.2.2.1 _,h.oc.setO h.nX.2.2.2 _,h.dis,h.n0,h.n1,h.nX⟩
theorem After.own {α β:Type} {f:α->List PV} {sz:Nat} {v v' w:AV} {H':Heap} {m:List α} (ha:After v H v' H') (h:OwnV f sz H w m) (hd:∀ id,Names w id->¬ Names v id):OwnV f sz H' w m/\∀ id,Names w id->¬ Names v' id:=by
 refine ⟨h.keep fun i ⟨n,hi⟩=>ha.get i (h.names_lt ⟨_,_,_,hi⟩) (hd i ⟨_,_,_,hi⟩),fun id hw hv=>?_⟩
 have:=ha.new id hv;have:=h.names_lt hw;omega
theorem ExI.appA (h:ExI t H X w1 w2 w3 va vb vd vc A B D C) {v':AV} {H':Heap} {A':List Pt} (g:GrowV Pt.cells 2 H' v' A') (ha:After va H v' H'):ExI t H' X w1 w2 w3 v' vb vd vc A' B D C:=by
 obtain ⟨l0,l1,lX⟩:=h.lt;obtain ⟨d1,d2,d3,d4,d5,d6⟩:=h.dis;obtain ⟨b1,b2⟩:=ha.grow h.gb d1;obtain ⟨c1,c2⟩:=ha.grow h.gd d2;obtain ⟨e1,e2⟩:=After.own (β:=Int) ha h.oc d4;have nw:∀ id,id < H.nx->¬ Names v' id:=fun id hi hn=>by have:=ha.new id hn;omega
 exact ⟨by rw [ha.get 0 l0 h.n0.1];exact h.k0,by rw [ha.get 1 l1 h.n1.1];exact h.k1,by rw [ha.get X lX h.nX.1];exact h.kX,h.x2,g,b1,c1,e1,⟨b2,c2,d3,e2,d5,d6⟩,⟨nw 0 l0,h.n0.2⟩,⟨nw 1 l1,h.n1.2⟩,⟨nw X lX,h.nX.2⟩⟩
theorem ExI.appB (h:ExI t H X w1 w2 w3 va vb vd vc A B D C) {v':AV} {H':Heap} {B':List Int} (g:GrowV intF 1 H' v' B') (ha:After vb H v' H'):ExI t H' X w1 w2 w3 va v' vd vc A B' D C:=by
 obtain ⟨l0,l1,lX⟩:=h.lt;obtain ⟨d1,d2,d3,d4,d5,d6⟩:=h.dis;obtain ⟨b1,b2⟩:=ha.grow h.ga (fun id x y=>d1 id y x);obtain ⟨c1,c2⟩:=ha.grow h.gd d3;obtain ⟨e1,e2⟩:=After.own (β:=Int) ha h.oc d5;have nw:∀ id,id < H.nx->¬ Names v' id:=fun id hi hn=>by have:=ha.new id hn;omega
 exact ⟨by rw [ha.get 0 l0 h.n0.2.1];exact h.k0,by rw [ha.get 1 l1 h.n1.2.1];exact h.k1,by rw [ha.get X lX h.nX.2.1];exact h.kX,h.x2,b1,g,c1,e1,⟨fun id x y=>b2 id y x,d2,c2,d4,e2,d6⟩,⟨h.n0.1,nw 0 l0,h.n0.2.2⟩,⟨h.n1.1,nw 1 l1,h.n1.2.2⟩,⟨h.nX.1,nw X lX,h.nX.2.2⟩⟩
theorem ExI.appD (h:ExI t H X w1 w2 w3 va vb vd vc A B D C) {v':AV} {H':Heap} {D':List (List UInt8)} (g:GrowV strF 1 H' v' D') (ha:After vd H v' H'):ExI t H' X w1 w2 w3 va vb v' vc A B D' C:=by
 obtain ⟨l0,l1,lX⟩:=h.lt;obtain ⟨d1,d2,d3,d4,d5,d6⟩:=h.dis;obtain ⟨b1,b2⟩:=ha.grow h.ga (fun id x y=>d2 id y x);obtain ⟨c1,c2⟩:=ha.grow h.gb (fun id x y=>d3 id y x);obtain ⟨e1,e2⟩:=After.own (β:=Int) ha h.oc d6;have nw:∀ id,id < H.nx->¬ Names v' id:=fun id hi hn=>by have:=ha.new id hn;omega
 exact ⟨by rw [ha.get 0 l0 h.n0.2.2.1];exact h.k0,by rw [ha.get 1 l1 h.n1.2.2.1];exact h.k1,by rw [ha.get X lX h.nX.2.2.1];exact h.kX,h.x2,b1,c1,g,e1,⟨d1,fun id x y=>b2 id y x,fun id x y=>c2 id y x,d4,d5,e2⟩,⟨h.n0.1,h.n0.2.1,nw 0 l0,h.n0.2.2.2⟩,⟨h.n1.1,h.n1.2.1,nw 1 l1,h.n1.2.2.2⟩,⟨h.nX.1,h.nX.2.1,nw X lX,h.nX.2.2.2⟩⟩
end
@[simp] theorem zpR {H:Heap} (x:PV):zI H 1 (.pure (.slice false 1 [[x]]))=some ([.pure x],1):=by simp [zI]
theorem zfD (b:List Box) (n:Nat):ptsE b (n+1)=ptsE b n++[exPt b n]:=by simp [ptsE,List.range_succ]
theorem zgA (h:List Span) (c:List Int) (n:Nat):htsE h c (n+1)=htsE h c n++[exHt h c n]:=by simp [htsE,List.range_succ]
theorem zg5 (b:List Box) (m:Nat):exPt b (m+1)=⟨zcp b[m+1]!.x (exPt b m).x,zcp b[m+1]!.y (exPt b m).y⟩:=rfl
theorem zhj (h:List Span) (c:List Int) (m:Nat):exHt h c (m+1)=if c[m]! = 0 then min h[m+1]!.hi (exHt h c m) else h[m+1]!.hi:=rfl
theorem zgf (t:List (List UInt8)) (n:Nat):letE t (n+1)=letE t n++[dotA t[n]!]:=by simp [letE,List.range_succ]
theorem sh8:G.shared 8=false:=by decide
theorem e8 (n:Nat) (l:Life) (c:Sl Int) (hs:za5 l) (hc:c.xs.length < 1000):zD G (n+9) 8 [.agg l.cells,c.pv intF 1]=some (exE l c):=by
 refine zo (zm _) rfl g8 rfl ?_
 have htel:=fun H=>zh (G:=G) (n:=n+8) (H:=H) (caps:=[]) (ps:=[.agg l.cells,c.pv intF 1]) sh31 (e31 n l c hs hc);have hE:Hide (exE l c=if zQ l c.xs=0 then (match zaQ l c.xs with
  | some t=>.tup [.agg (exV t c.xs l.sights.xs.length (zbH c)).cells,.int .i64 0]
  | none=>.tup [.agg [.nils,.nils,.nils,.nils],.int .i64 9]) else .tup [.agg [.nils,.nils,.nils,.nils],.int .i64 (zQ l c.xs)]):=⟨rfl⟩
 generalize exE l c=P at *;simp only [Life.cells,List.map_cons,List.map_nil] at htel
 by_cases hg:zQ l c.xs=0
 case neg =>
  have hP:P=.tup [.agg [.nils,.nils,.nils,.nils],.int .i64 (zQ l c.xs)]:=by rw [hE.h,if_neg hg]
  have ht:zbo l c.xs=.tup [.agg [.nils,.nils,.nils],.int .i64 (zQ l c.xs)]:=by unfold zbo;rw [if_neg hg]
  rw [ht] at htel;subst hP;clear hE ht;(repeat' first|simp [*,zb,c8,Life.cells]|(apply za<;>intro _ h<;>try simp [-Nat.le_zero_eq] at h)|(show wpE 0 (zl ..) ..;refine zw ?_)|(refine zi fun v2 H2 hv2 hnx2 hget2 hnew2 hone2 hcel2=>?_))
 cases ht:zaQ l c.xs with
 | none =>
  have hP:P=.tup [.agg [.nils,.nils,.nils,.nils],.int .i64 9]:=by rw [hE.h,if_pos hg,ht]
  have ht2:zbo l c.xs=.tup [.agg [.nils,.nils,.nils],.int .i64 9]:=by unfold zbo;rw [if_pos hg,ht]
  rw [ht2] at htel;subst hP;clear hE ht ht2;(repeat' first|simp [*,zb,c8,Life.cells]|(apply za<;>intro _ h<;>try simp [-Nat.le_zero_eq] at h)|(show wpE 0 (zl ..) ..;refine zw ?_)|(refine zi fun v2 H2 hv2 hnx2 hget2 hnew2 hone2 hcel2=>?_))
 | some t =>
  have hP:P=.tup [.agg (exV t c.xs l.sights.xs.length (zbH c)).cells,.int .i64 0]:=by rw [hE.h,if_pos hg,ht]
  have ht2:zbo l c.xs=.tup [.agg t.told.cells,.int .i64 0]:=by unfold zbo;rw [if_pos hg,ht]
  rw [ht2] at htel;have htp:=zjU hg ht;have h1:=htp.right.one;have h9:=htp.right.nine;have hcl:=htp.len;have hPH:=Hide.mk hP;clear hE ht ht2 hP;have htc:t.told.cells=[(Sl.of t.boxes).pv Box.cells 4,(Sl.of t.heights).pv Span.cells 2,(Sl.of t.letters).pv strF 1]:=rfl;rw [htc] at htel;(repeat' first|simp [*,zb,c8,Life.cells]|(apply za<;>intro _ h<;>try simp [-Nat.le_zero_eq] at h)|(show wpE 0 (zl ..) ..;refine zw ?_)|(refine zi fun v2 H2 hv2 hnx2 hget2 hnew2 hone2 hcel2=>?_))
  refine zd3 (caps:=[]) zik ?_
  refine zdr (f:=intF) (sz:=1) (bytes:=8) (l:=c.xs) (b:=c.isNil) (fun _=>rfl) g32 (zfN (f:=intF) (sz:=1) (fun _=>rfl) _) (by simp) (fun h=>by cases c with|nil=>rfl|mk hh l=>simp [Sl.isNil] at h) (fun _=>rfl) (by decide) (fun _=>rfl) (by simp only [zt];omega) ?_
  intro vc H1 hvc hnil hnx hget hnew;have g0:=hget 0 (by simp);have g1:=hget 1 (by simp);simp at g0 g1 hnx;have hn0:¬ Names vc 0:=fun h=>by have:=hnew 0 h;simp at this
  have hn1:¬ Names vc 1:=fun h=>by have:=hnew 1 h;simp at this
  have hnX:¬ Names vc H1.nx:=fun h=>by have:=hvc.names_lt h;omega
  have hon:=hvc.one;have x0:¬ (0=H1.nx):=by omega
  have x1:¬ (1=H1.nx):=by omega
  have z0:0 < H1.nx+1:=by omega
  have z1:1 < H1.nx+1:=by omega
  have lt0:0 < H1.nx:=by omega
  have lt1:1 < H1.nx:=by omega
  have hbl:t.boxes.length=l.sights.xs.length:=by
   obtain ⟨X,Y,hX,hY,e⟩:=htp.x;have lX:X.length=l.sights.xs.length:=by simpa using hX.len
   have lY:Y.length=l.sights.xs.length:=by simpa using hY.len
   rw [e];simp;omega
  have hhl:t.heights.length=l.sights.xs.length:=by simpa using htp.h.len
  have hgl:(zaE l.sights.xs c.xs).length=c.xs.length:=by simp [zaE,lets];omega
  have htl:t.letters.length=l.sights.xs.length:=by have:=htp.ls.len;omega
  have ht20:Hide (∀ i (h:i < t.letters.length),(t.letters[i]).length<=20):=⟨fun i h=>by
   have:patR t.letters[i]=true:=by
    cases i with
    | zero=>have:=(htp.ls.head 0 (by omega)).1;rwa [getElem!_pos _ 0 h] at this
    | succ i=>have:=(htp.ls.rest i (by omega)).1;rwa [Nat.add_comm 1 i,getElem!_pos _ (i+1) h] at this
   simp only [patR,Bool.and_eq_true,decide_eq_true_eq] at this;omega⟩
  clear hget hnew htel htp hs hgl;(repeat' first|simp [*,zb]|(apply za<;>intro _ h<;>try simp [-Nat.le_zero_eq] at h)|(show wpE 0 (zl ..) ..;refine zw ?_)|(refine zi fun v2 H2 hv2 hnx2 hget2 hnew2 hone2 hcel2=>?_));have I1:ExI t (((H1.alloc (.cells true [.pure .nils,.pure .nils,.pure .nils,.pure .nils])).set H1.nx (.cells true [.pure .nils,.pure .nils,.pure .nils,vc]))) H1.nx (.pure .nils) (.pure .nils) (.pure .nils) (.pure .nils) (.pure .nils) (.pure .nils) vc [] [] [] c.xs:=by
   have hno:∀ id,¬ Names (.pure .nils) id:=fun id ⟨_,_,_,h⟩=>by simp at h
   refine ⟨by rw [zu (by omega),zy lt0];exact g0,by rw [zu (by omega),zy lt1];exact g1,zU (by show H1.nx < H1.nx+1;omega),hnx,GrowV.nil,GrowV.nil,GrowV.nil,(hvc.alloc _).setO hnX _,⟨fun id h=>absurd h (hno id),fun id h=>absurd h (hno id),fun id h=>absurd h (hno id),fun id _=>hno id,fun id _=>hno id,fun id _=>hno id⟩,⟨hno _,hno _,hno _,hn0⟩,⟨hno _,hno _,hno _,hn1⟩,⟨hno _,hno _,hno _,hnX⟩⟩
  generalize hHB:((H1.alloc (.cells true [.pure .nils,.pure .nils,.pure .nils,.pure .nils])).set H1.nx (.cells true [.pure .nils,.pure .nils,.pure .nils,vc]))=HB at *
  refine zF [(10,13),(30,114)] (fun (s:Nat×AV×AV×AV) env2 H2=>env2 30=.pure (.int .i64 s.1)/\s.1<=l.sights.xs.length /\
   ExI t H2 H1.nx s.2.1 s.2.2.2 s.2.2.1 s.2.1 s.2.2.1 s.2.2.2 vc (ptsE t.boxes s.1) (htsE t.heights c.xs s.1) (letE t.letters s.1) c.xs) (fun s=>l.sights.xs.length - s.1) (0,.pure .nils,.pure .nils,.pure .nils) ?_ ?_ ?_ ?_
  ·decide
  ·exact ⟨by simp,by omega,I1⟩
  ·simp only [zB];omega
  clear I1 hHB hvc g0 g1 hn0 hn1 hnX;rintro ⟨j,va,vb,vd⟩ env2 H2 ⟨h30,hj,I⟩;simp only at h30 hj I;have hfit:j < 9223372036854775807:=by omega
  have k0:=I.k0;have k1:=I.k1;have kX:=I.kX;have x2:=I.x2;obtain ⟨m0,m1,mX⟩:=I.lt
  by_cases hlt:j < l.sights.xs.length
  case neg =>
   have hje:j=l.sights.xs.length:=by omega
   subst hje;have hltI:¬ ((l.sights.xs.length:Nat):Int) < l.sights.xs.length:=by omega
   have hne0:¬ (0=H2.nx):=by omega
   have hP4:P=.tup [.agg [(Sl.of (ptsE t.boxes l.sights.xs.length)).pv Pt.cells 2,(Sl.of (letE t.letters l.sights.xs.length)).pv strF 1,(Sl.of (htsE t.heights c.xs l.sights.xs.length)).pv intF 1,(zbH c).pv intF 1],.int .i64 0]:=hPH.h;have fa:FrzK (H2.set 0 (.cells true [va,vd,vb,vc])) false 11 (aggV [va,vd,vb,vc]) (.agg [(Sl.of (ptsE t.boxes l.sights.xs.length)).pv Pt.cells 2,(Sl.of (letE t.letters l.sights.xs.length)).pv strF 1,(Sl.of (htsE t.heights c.xs l.sights.xs.length)).pv intF 1,(zbH c).pv intF 1]) :=
    FrzK.aggV (.cons ((I.ga.set I.n0.1 _).res (fun _=>rfl)) (.cons ((I.gd.set I.n0.2.2.1 _).res (fun _=>rfl)) (.cons ((I.gb.set I.n0.2.1 _).res (fun _=>rfl)) (.cons (zlp (I.oc.setO I.n0.2.2.2 _) hnil) .nil))))
   obtain ⟨ids,hids⟩:=fa;have o1:=I.ga.1.one;have o2:=I.gb.1.one;have o3:=I.gd.1.one;have o4:=I.oc.one;clear I;(repeat' first|simp [*,zb]|(apply za<;>intro _ h<;>try simp [-Nat.le_zero_eq] at h)|(show wpE 0 (zl ..) ..;refine zw ?_)|(refine zi fun v2 H2 hv2 hnx2 hget2 hnew2 hone2 hcel2=>?_))
  have hltI:(j:Int) < l.sights.xs.length:=by omega
  have hjb:j < t.boxes.length:=by omega
  have hjh:j < t.heights.length:=by omega
  have hjt:j < t.letters.length:=by omega
  have w1:IntKind.i64.wrap ((j:Int)+1)=(j+1:Nat):=by rw [wrap64 (by omega) (by omega)];omega
  have hrep:=fun H=>zh (G:=G) (n:=n+8) (H:=H) (caps:=[]) (ps:=[.str ⟨t.letters[j].toArray⟩,.str ⟨#[46]⟩,.str ⟨#[65]⟩]) zmU (zle (n+7) t.letters[j] (ht20.h j hjt));simp only [List.map_cons,List.map_nil] at hrep;have IH:=Hide.mk I;have hva:=I.ga;have hvb:=I.gb;have hfa:=hva.1.fresh;have on1:=hva.1.one;have on2:=hvb.1.one;have on3:=I.gd.1.one;have hbe:=fun off=>zkc (off:=off) hva.1 I.nX.1;have lpa:=zid t.boxes j;have lpb:=zh7 t.heights c.xs j;have lpd:=zhz t.letters j;have hne0:¬ (0=H2.nx):=by omega
  have hne1:¬ (1=H2.nx):=by omega
  have hneX:¬ (H1.nx=H2.nx):=by omega
  have l0:0 < H2.nx+1:=by omega
  have l1:1 < H2.nx+1:=by omega
  have lX:H1.nx < H2.nx+1:=by omega
  have hne02:¬ (0=H2.nx+1):=by omega
  have hne12:¬ (1=H2.nx+1):=by omega
  have hneX2:¬ (H1.nx=H2.nx+1):=by omega
  have hnn:¬ (H2.nx=H2.nx+1):=by omega
  have l02:0 < H2.nx+1+1:=by omega
  have l12:1 < H2.nx+1+1:=by omega
  have lX2:H1.nx < H2.nx+1+1:=by omega
  clear I
  by_cases hj0:j=0
  ·have pz:¬ (0:Int) < j:=by omega
   have pz2:¬ 0 < j:=by omega
   have hj0H:=Hide.mk hj0;clear hj0;(repeat' first|simp [*,zb,zc3,chunks]|(apply za<;>intro _ h<;>try simp [-Nat.le_zero_eq] at h)|(show wpE 0 (zl ..) ..;refine zw ?_)|(refine zi fun v2 H2 hv2 hnx2 hget2 hnew2 hone2 hcel2=>?_));have J1:=(((((IH.h.alloc _).setF ⟨by omega,by omega⟩ (IH.h.fresh (Nat.le_refl _)) _).alloc _).setF ⟨by omega,by omega⟩ (IH.h.fresh (Nat.le_succ _)) _).alloc _).appA hv2 ⟨hnx2,hget2,hnew2⟩;clear hv2 hnx2 hget2 hnew2 hva hvb hfa on1 on2 on3 hbe k0 k1 kX m0 m1 mX hne0 hne1 hneX l0 l1 lX hne02 hne12 hneX2 hnn l02 l12 lX2;have o1:=J1.ga.1.one;clear hone2 hcel2;generalize v2=v3 at *;generalize H2=H3 at *;have hvb:=J1.gb;have J1H:=Hide.mk J1;clear J1;(repeat' first|simp [*,zb,zc3,chunks]|(apply za<;>intro _ h<;>try simp [-Nat.le_zero_eq] at h)|(show wpE 0 (zl ..) ..;refine zw ?_)|(refine zi fun v2 H2 hv2 hnx2 hget2 hnew2 hone2 hcel2=>?_));have J2:=J1H.h.appB hv2 ⟨hnx2,hget2,hnew2⟩;clear hv2 hnx2 hget2 hnew2 hvb J1H;have o2:=J2.gb.1.one;clear hone2 hcel2;generalize v2=v4 at *;generalize H2=H4 at *;have hvd:=J2.gd;have o3:=J2.gd.1.one;have k0:=J2.k0;have k1:=J2.k1;have kX:=J2.kX;obtain ⟨m0,m1,mX⟩:=J2.lt;have hfd:=J2.gd.1.fresh;have rX:=J2.nX.2.2.1;have J2H:=Hide.mk J2;clear J2;(repeat' first|simp [*,zb,zc3,chunks]|(apply za<;>intro _ h<;>try simp [-Nat.le_zero_eq] at h)|(show wpE 0 (zl ..) ..;refine zw ?_)|(refine zi fun v2 H2 hv2 hnx2 hget2 hnew2 hone2 hcel2=>?_));have J3:=(((J2H.h.setX v3 vd vb).setX v3 vd v4).alloc _).appD hv2 ⟨hnx2,hget2,hnew2⟩;clear hv2 hnx2 hget2 hnew2 hvd J2H k0 k1 kX m0 m1 mX hfd rX o3;have o3:=J3.gd.1.one;clear hone2 hcel2;generalize v2=v5 at *;generalize H2=H5 at *;have kX:=J3.kX;obtain ⟨_,_,mX⟩:=J3.lt;have J3H:=Hide.mk J3;clear J3;have e1:ptsE t.boxes j++[⟨t.boxes[j].x.lo,t.boxes[j].y.lo⟩]=ptsE t.boxes (j+1):=by
    have:=hj0H.h;subst this;rw [zfD,exPt,getElem!_pos t.boxes 0 hjb]
   have e2:htsE t.heights c.xs j++[t.heights[j].hi]=htsE t.heights c.xs (j+1):=by
    have:=hj0H.h;subst this;rw [zgA,exHt,getElem!_pos t.heights 0 hjh]
   have e3:letE t.letters j++[dotA t.letters[j]]=letE t.letters (j+1):=by rw [zgf,getElem!_pos t.letters j hjt]
   have J4:=Hide.mk (J3H.h.setX v3 v5 v4);rw [e1,e2,e3] at J4;clear e1 e2 e3 J3H;(repeat' first|simp [*,zb]|(apply za<;>intro _ h<;>try simp [-Nat.le_zero_eq] at h)|(show wpE 0 (zl ..) ..;refine zw ?_)|(refine zi fun v2 H2 hv2 hnx2 hget2 hnew2 hone2 hcel2=>?_));exact ⟨j+1,by omega,by simp,by omega,v3,v4,v5,J4.h⟩
  -- later
  obtain ⟨m,hjm⟩:∃ m,j=m+1:=⟨j - 1,by omega⟩
  have hjmH:=Hide.mk hjm;have pz:(0:Int) < j:=by omega
  have pz2:0 < j:=by omega
  have wj:IntKind.i64.wrap ((j:Int) - 1)=(m:Nat):=by rw [wrap64 (by omega) (by omega)];omega
  have hmc:m < c.xs.length:=by omega
  have lma:m < (ptsE t.boxes j).length:=by omega
  have lmb:m < (htsE t.heights c.xs j).length:=by omega
  have ada:=hva.1.addr (k:=.i64) lma;have adb:=hvb.1.addr (k:=.i64) lmb;have hga:=hva.1.objI (by omega);have hgb:=hvb.1.objI (by omega);have lta:=hva.1.ltI (by omega);have ltb:=hvb.1.ltI (by omega);have nea:¬ (idOf va=H2.nx):=by omega
  have neb:¬ (idOf vb=H2.nx):=by omega
  have nea2:¬ (idOf va=H2.nx+1):=by omega
  have neb2:¬ (idOf vb=H2.nx+1):=by omega
  have lta1:idOf va < H2.nx+1:=by omega
  have ltb1:idOf vb < H2.nx+1:=by omega
  have hpe:(ptsE t.boxes j)[m]=exPt t.boxes m:=by have:=zhC (b:=t.boxes) (n:=j) (k:=m) (by omega);rwa [getElem!_pos _ m lma] at this
  have hhe:(htsE t.heights c.xs j)[m]=exHt t.heights c.xs m:=by have:=zh1 (h:=t.heights) (c:=c.xs) (n:=j) (k:=m) (by omega);rwa [getElem!_pos _ m lmb] at this
  have lx0:=zjY (own:=true) (f:=Pt.cells) (sz:=2) (l:=ptsE t.boxes j) (i:=m) (size:=1) (fun _=>rfl) lma (by decide);have ly0:=zix (own:=true) (f:=Pt.cells) (sz:=2) (l:=ptsE t.boxes j) (i:=m) (size:=1) (off:=1) (fun _=>rfl) lma (by decide);have lh0:=zfb (own:=true) (f:=intF) (l:=htsE t.heights c.xs j) (i:=m) (fun _=>rfl) lmb;rw [hpe] at lx0 ly0;rw [hhe] at lh0;simp only [Pt.cells,List.take_succ_cons,List.take_zero,List.drop_succ_cons,List.drop_zero,List.map_cons,List.map_nil,intF] at lx0 ly0 lh0;clear hpe hhe hj0 hjm lma lmb
  by_cases hc0:c.xs[m]=0
  ·(repeat' first|simp [*,zb,zc3,chunks]|(apply za<;>intro _ h<;>try simp [-Nat.le_zero_eq] at h)|(show wpE 0 (zl ..) ..;refine zw ?_)|(refine zi fun v2 H2 hv2 hnx2 hget2 hnew2 hone2 hcel2=>?_));have J1:=((((((IH.h.alloc _).setF ⟨by omega,by omega⟩ (IH.h.fresh (Nat.le_refl _)) _).alloc _).setF ⟨by omega,by omega⟩ (IH.h.fresh (Nat.le_succ _)) _).setF ⟨by omega,by omega⟩ (IH.h.fresh (Nat.le_succ _)) _).alloc _).appA hv2 ⟨hnx2,hget2,hnew2⟩;clear hv2 hnx2 hget2 hnew2 hva hvb hfa on1 on2 on3 hbe ada adb hga hgb lta ltb nea neb nea2 neb2 lta1 ltb1 lx0 ly0 lh0 wj pz k0 k1 kX m0 m1 mX hne0 hne1 hneX l0 l1 lX hne02 hne12 hneX2 hnn l02 l12 lX2;have o1:=J1.ga.1.one;clear hone2 hcel2;generalize v2=v3 at *;generalize H2=H3 at *;have hvb:=J1.gb;have J1H:=Hide.mk J1;clear J1;(repeat' first|simp [*,zb,zc3,chunks]|(apply za<;>intro _ h<;>try simp [-Nat.le_zero_eq] at h)|(show wpE 0 (zl ..) ..;refine zw ?_)|(refine zi fun v2 H2 hv2 hnx2 hget2 hnew2 hone2 hcel2=>?_));have J2:=J1H.h.appB hv2 ⟨hnx2,hget2,hnew2⟩;clear hv2 hnx2 hget2 hnew2 hvb J1H;have o2:=J2.gb.1.one;clear hone2 hcel2;generalize v2=v4 at *;generalize H2=H4 at *;have hvd:=J2.gd;have o3:=J2.gd.1.one;have k0:=J2.k0;have k1:=J2.k1;have kX:=J2.kX;obtain ⟨m0,m1,mX⟩:=J2.lt;have hfd:=J2.gd.1.fresh;have rX:=J2.nX.2.2.1;have J2H:=Hide.mk J2;clear J2;(repeat' first|simp [*,zb,zc3,chunks]|(apply za<;>intro _ h<;>try simp [-Nat.le_zero_eq] at h)|(show wpE 0 (zl ..) ..;refine zw ?_)|(refine zi fun v2 H2 hv2 hnx2 hget2 hnew2 hone2 hcel2=>?_));have J3:=(((J2H.h.setX v3 vd vb).setX v3 vd v4).alloc _).appD hv2 ⟨hnx2,hget2,hnew2⟩;clear hv2 hnx2 hget2 hnew2 hvd J2H k0 k1 kX m0 m1 mX hfd rX o3;have o3:=J3.gd.1.one;clear hone2 hcel2;generalize v2=v5 at *;generalize H2=H5 at *;have kX:=J3.kX;obtain ⟨_,_,mX⟩:=J3.lt;have J3H:=Hide.mk J3;clear J3;have e1:ptsE t.boxes j++[⟨zcp t.boxes[j].x (exPt t.boxes m).x,zcp t.boxes[j].y (exPt t.boxes m).y⟩]=ptsE t.boxes (j+1):=by
    have:=hjmH.h;subst this;rw [zfD t.boxes (m+1),zg5,getElem!_pos t.boxes (m+1) hjb]
   have e2:htsE t.heights c.xs j++[min t.heights[j].hi (exHt t.heights c.xs m)]=htsE t.heights c.xs (j+1):=by
    have:=hjmH.h;subst this;rw [zgA t.heights c.xs (m+1),zhj,getElem!_pos t.heights (m+1) hjh,getElem!_pos c.xs m hmc,if_pos hc0]
   have e3:letE t.letters j++[dotA t.letters[j]]=letE t.letters (j+1):=by rw [zgf,getElem!_pos t.letters j hjt]
   have J4:=Hide.mk (J3H.h.setX v3 v5 v4);rw [e1,e2,e3] at J4;clear e1 e2 e3 J3H;(repeat' first|simp [*,zb]|(apply za<;>intro _ h<;>try simp [-Nat.le_zero_eq] at h)|(show wpE 0 (zl ..) ..;refine zw ?_)|(refine zi fun v2 H2 hv2 hnx2 hget2 hnew2 hone2 hcel2=>?_));exact ⟨j+1,by omega,by simp,by omega,v3,v4,v5,J4.h⟩
  ·(repeat' first|simp [*,zb,zc3,chunks]|(apply za<;>intro _ h<;>try simp [-Nat.le_zero_eq] at h)|(show wpE 0 (zl ..) ..;refine zw ?_)|(refine zi fun v2 H2 hv2 hnx2 hget2 hnew2 hone2 hcel2=>?_));have J1:=((((((IH.h.alloc _).setF ⟨by omega,by omega⟩ (IH.h.fresh (Nat.le_refl _)) _).alloc _).setF ⟨by omega,by omega⟩ (IH.h.fresh (Nat.le_succ _)) _).setF ⟨by omega,by omega⟩ (IH.h.fresh (Nat.le_succ _)) _).alloc _).appA hv2 ⟨hnx2,hget2,hnew2⟩;clear hv2 hnx2 hget2 hnew2 hva hvb hfa on1 on2 on3 hbe ada adb hga hgb lta ltb nea neb nea2 neb2 lta1 ltb1 lx0 ly0 lh0 wj pz k0 k1 kX m0 m1 mX hne0 hne1 hneX l0 l1 lX hne02 hne12 hneX2 hnn l02 l12 lX2;have o1:=J1.ga.1.one;clear hone2 hcel2;generalize v2=v3 at *;generalize H2=H3 at *;have hvb:=J1.gb;have J1H:=Hide.mk J1;clear J1;(repeat' first|simp [*,zb,zc3,chunks]|(apply za<;>intro _ h<;>try simp [-Nat.le_zero_eq] at h)|(show wpE 0 (zl ..) ..;refine zw ?_)|(refine zi fun v2 H2 hv2 hnx2 hget2 hnew2 hone2 hcel2=>?_));have J2:=J1H.h.appB hv2 ⟨hnx2,hget2,hnew2⟩;clear hv2 hnx2 hget2 hnew2 hvb J1H;have o2:=J2.gb.1.one;clear hone2 hcel2;generalize v2=v4 at *;generalize H2=H4 at *;have hvd:=J2.gd;have o3:=J2.gd.1.one;have k0:=J2.k0;have k1:=J2.k1;have kX:=J2.kX;obtain ⟨m0,m1,mX⟩:=J2.lt;have hfd:=J2.gd.1.fresh;have rX:=J2.nX.2.2.1;have J2H:=Hide.mk J2;clear J2;(repeat' first|simp [*,zb,zc3,chunks]|(apply za<;>intro _ h<;>try simp [-Nat.le_zero_eq] at h)|(show wpE 0 (zl ..) ..;refine zw ?_)|(refine zi fun v2 H2 hv2 hnx2 hget2 hnew2 hone2 hcel2=>?_));have J3:=(((J2H.h.setX v3 vd vb).setX v3 vd v4).alloc _).appD hv2 ⟨hnx2,hget2,hnew2⟩;clear hv2 hnx2 hget2 hnew2 hvd J2H k0 k1 kX m0 m1 mX hfd rX o3;have o3:=J3.gd.1.one;clear hone2 hcel2;generalize v2=v5 at *;generalize H2=H5 at *;have kX:=J3.kX;obtain ⟨_,_,mX⟩:=J3.lt;have J3H:=Hide.mk J3;clear J3;have e1:ptsE t.boxes j++[⟨zcp t.boxes[j].x (exPt t.boxes m).x,zcp t.boxes[j].y (exPt t.boxes m).y⟩]=ptsE t.boxes (j+1):=by
    have:=hjmH.h;subst this;rw [zfD t.boxes (m+1),zg5,getElem!_pos t.boxes (m+1) hjb]
   have e2:htsE t.heights c.xs j++[t.heights[j].hi]=htsE t.heights c.xs (j+1):=by
    have:=hjmH.h;subst this;rw [zgA t.heights c.xs (m+1),zhj,getElem!_pos t.heights (m+1) hjh,getElem!_pos c.xs m hmc,if_neg hc0]
   have e3:letE t.letters j++[dotA t.letters[j]]=letE t.letters (j+1):=by rw [zgf,getElem!_pos t.letters j hjt]
   have J4:=Hide.mk (J3H.h.setX v3 v5 v4);rw [e1,e2,e3] at J4;clear e1 e2 e3 J3H;(repeat' first|simp [*,zb]|(apply za<;>intro _ h<;>try simp [-Nat.le_zero_eq] at h)|(show wpE 0 (zl ..) ..;refine zw ?_)|(refine zi fun v2 H2 hv2 hnx2 hget2 hnew2 hone2 hcel2=>?_));exact ⟨j+1,by omega,by simp,by omega,v3,v4,v5,J4.h⟩
set_option maxHeartbeats 4000000
theorem zfQ (p:List Int->Bool) (m:Nat):∀ j,(zY p m j=none->∀ k:Nat,(byTo p m j)[k]! = 0) /\
  (∀ c,zY p m j=some c->chg c<=m/\(∀ k:Nat,k < chg c->(byTo p m j)[k]! = 0)/\0 < (byTo p m j)[chg c]!)
 | 0=>by
  refine ⟨fun _ k=>?_,fun c h=>by simp [zY] at h⟩
  by_cases hk:k < m+1
  ·rw [getElem!_pos _ k (by simp [byTo];exact hk)];simp [byTo]
  ·rw [getElem!_neg _ k (by simp [byTo];omega)];rfl
 | j+1=>by
  obtain ⟨i1,i2⟩:=zfQ p m j;have hl:=zaV p m j;have hcl:=zeS (toC m j);rw [zaj] at hcl;have hle:=zfq p m j;have hadd:∀ k:Nat,k < m+1->(zfd (byTo p m j) (chg (toC m j)))[k]! = if chg (toC m j)=k then (byTo p m j)[k]! + 1 else (byTo p m j)[k]! := fun k hk=>by
   rw [zfd,getElem!_pos _ k (by rw [List.length_set];omega),List.getElem_set]
   split
   ·rename_i h;rw [h]
   ·rw [getElem!_pos _ k (by omega)]
  have hge:∀ k:Nat,k < m+1->0<=(byTo p m j)[k]! := fun k hk=>by
   rw [getElem!_pos _ k (by omega)];exact (hle _ (List.getElem_mem _)).1
  rw [zY,byTo]
  by_cases hp:p (toC m j)=true
  ·rw [if_pos hp,if_pos hp]
   cases hb:zY p m j with
   | none =>
    refine ⟨fun h=>by simp at h,fun c h=>?_⟩
    simp at h;subst h
    refine ⟨hcl,fun k hk=>?_,?_⟩
    ·rw [hadd k (by omega),if_neg (by omega)];exact i1 hb k
    ·rw [hadd _ (by omega),if_pos rfl,i1 hb];decide
   | some b =>
    obtain ⟨q1,q2,q3⟩:=i2 b hb
    by_cases hlt:chg (toC m j) < chg b
    ·simp only [if_pos hlt]
     refine ⟨fun h=>by simp at h,fun c h=>?_⟩
     simp at h;subst h
     refine ⟨hcl,fun k hk=>?_,?_⟩
     ·rw [hadd k (by omega),if_neg (by omega)];exact q2 k (by omega)
     ·rw [hadd _ (by omega),if_pos rfl];have:=hge _ (show chg (toC m j) < m+1 by omega);omega
    ·simp only [if_neg hlt]
     refine ⟨fun h=>by simp at h,fun c h=>?_⟩
     simp at h;subst h
     refine ⟨q1,fun k hk=>?_,?_⟩
     ·rw [hadd k (by omega),if_neg (by omega)];exact q2 k hk
     ·rw [hadd _ (by omega)];split<;>omega
  ·rw [if_neg hp,if_neg hp];exact ⟨i1,i2⟩
theorem zd8:∀ (L:List Int) (i d:Int),(∀ k:Nat,L[k]! = 0)->zaU L i d=d
 | [],_,_,_=>rfl
 | a::r,i,d,h=>by
  have h0:=h 0;simp at h0;rw [zaU,if_neg (by omega)];exact zd8 r _ _ (fun k=>by have:=h (k+1);simpa using this)
theorem zfc:∀ (L:List Int) (i d:Int) (k:Nat),(∀ q:Nat,q < k->L[q]! = 0)->0 < L[k]! -> zaU L i d=i+k
 | [],_,_,k,_,h=>by simp at h
 | a::r,i,d,0,_,h=>by
  simp at h;rw [zaU,if_pos h];simp
 | a::r,i,d,k+1,h,h'=>by
  have h0:=h 0 (by omega);simp at h0;rw [zaU,if_neg (by omega),zfc r _ _ k (fun q hq=>by have:=h (q+1) (by omega);simpa using this) (by simpa using h')]
  push_cast;omega
theorem zhL {l:Life} (hr:Right l):zey l=match zdH l with
  | none=>(l.sights.xs.length:Int)
  | some c=>(chg c:Int):=by
 have h:=zfQ (fitP l) (l.sights.xs.length - 1) (3 ^ (l.sights.xs.length - 1));have he:byL l=byTo (fitP l) (l.sights.xs.length - 1) (3 ^ (l.sights.xs.length - 1)):=(zj0 hr _).symm;unfold zey;rw [he]
 cases hc:zdH l with
 | none=>exact zd8 _ _ _ (h.1 hc)
 | some c =>
  obtain ⟨_,h2,h3⟩:=h.2 c hc;rw [zfc _ _ _ _ h2 h3];simp
theorem zen (p:List Int->Bool) (m:Nat):∀ j b,zY p m j=some b->p b=true/\∃ i,b=toC m i
 | 0,b,h=>by simp [zY] at h
 | j+1,b,h=>by
  rw [zY] at h
  by_cases hp:p (toC m j)=true
  ·rw [if_pos hp] at h
   cases ho:zY p m j with
   | none=>rw [ho] at h;simp at h;subst h;exact ⟨hp,j,rfl⟩
   | some d =>
    rw [ho] at h;simp only at h
    split at h
    ·simp at h;subst h;exact ⟨hp,j,rfl⟩
    ·simp at h;subst h;exact zen p m j _ ho
  ·rw [if_neg hp] at h;exact zen p m j _ h
theorem zko:∀ (m j:Nat),∀ k∈toC m j,0<=k/\k<=2
 | 0,j,k,h=>by simp [toC] at h
 | m+1,j,k,h=>by
  simp only [toC,List.mem_cons] at h;rcases h with rfl|h
  ·omega
  ·exact zko m _ k h
def zfJ (l:Life):PV:=if zR l=0 then (match zdH l with
 | none=>.tup [.nils,.int .i64 9]
 | some c=>.tup [(Sl.mk false c).pv intF 1,.int .i64 0]) else .tup [.nils,.int .i64 (zR l)]
theorem sh7:G.shared 7=false:=by decide
theorem e7 (n:Nat) (l:Life) (hs:za5 l):zD G (n+11) 7 [.agg l.cells]=some (zfJ l):=by
 refine zo (zm _) rfl g7 rfl ?_
 have hcc:∀ H,zn (zg G (n+10)) H (.pure (.func 29 [])) [.pure (.agg l.cells)]=some (.val (.pure (.int .i64 (zR l)))):=fun H=>d29 (n+5) H l.habit.step l.habit.place l.habit.sink l.sights l.notes hs;simp only [Life.cells] at hcc
 by_cases hck:zR l=0
 ·have hr:=(za1 l).1 hck;have hc:∀ H,zn (zg G (n+10)) H (.pure (.func 30 [])) [.pure (.agg l.cells)]=some (.val (.pure (zde (zdH l)))):=fun H=>d30 n H l.habit.step l.habit.place l.habit.sink l.sights l.notes hr;simp only [Life.cells] at hc
  cases ho:zdH l with
  | none =>
   rw [ho] at hc;(repeat' first|simp [*,zb,c7,zde,zfJ]|(apply za<;>intro _ h<;>try simp [-Nat.le_zero_eq] at h))
  | some c =>
   rw [ho] at hc;(repeat' first|simp [*,zb,c7,zde,zfJ]|(apply za<;>intro _ h<;>try simp [-Nat.le_zero_eq] at h))
 ·(repeat' first|simp [*,zb,c7,zfJ]|(apply za<;>intro _ h<;>try simp [-Nat.le_zero_eq] at h))
theorem e15b (n:Nat) (a b:Sl Int) (hb:b.xs=a.xs) (ha:a.xs.length < 1000):zD G (n+1) 15 [b.pv intF 1,a.pv intF 1]=some (.bool true):=by
 refine zo (zm _) rfl g15 rfl ?_
 (repeat' first|simp [*,zb,c15]|(apply za<;>intro _ h<;>try simp [-Nat.le_zero_eq] at h))
 refine zF [(4,5),(11,25)] (fun (i:Nat) env H=>env 5=.pure (.int .i64 i)/\i<=a.xs.length) (fun i=>a.xs.length - i) 0 ?_ ?_ ?_ ?_
 ·decide
 ·simp
 ·simp only [zB];omega
 rintro i env H ⟨h5,hi⟩;have hfit:i < 9223372036854775807:=by omega
 (repeat' first|simp [*,zb,zl9,zay,zbv]|(apply za<;>intro _ h<;>try simp [-Nat.le_zero_eq] at h))
 all_goals try exact ⟨i+1,by omega,by simp,by omega⟩
theorem zlR {l:Life} {c:List Int} (hr:Right l) (h1:c.length+1=l.sights.xs.length) (h2:∀ k∈c,0<=k/\k<=2):zQ l c=0:=by
 unfold zQ;rw [if_pos ((za1 l).2 hr),if_pos];simp only [zbt,Bool.and_eq_true,decide_eq_true_eq,Bool.not_eq_true',List.any_eq_false]
 refine ⟨by omega,fun k hk=>?_⟩
 have:=h2 k hk;simp [gapB,this]
theorem TellP.light {l:Life} {c:List Int} {t:TellR} (h:TellP l c t) (s:Sl Int):∀ x∈(exV t c l.sights.xs.length s).letters.xs,x.length<=20:=by
 intro x hx;have hx':x∈letE t.letters l.sights.xs.length:=by rw [<- Sl.xs_of (letE t.letters l.sights.xs.length)];exact hx
 obtain ⟨k,hk,rfl⟩:=List.mem_map.1 hx';have hk':k < l.sights.xs.length:=List.mem_range.1 hk;have:=(h.reads hk').2;simp only [zZ,patR,Bool.and_eq_true,decide_eq_true_eq] at this;omega
end Go.Proofs.YtifmedfpnnfmoaaGreatDoor.Vm
