/- What the functions that check lives compute: the program's, and the specification's. What the functions of courses compute: the program's, and the specification's. What the functions of spans and letters compute: the program's, and the specification's. What the functions of letters compute: the program's, and the specification's. What a course tells of a life: the program's function tell. What the specification's spans compute. What the specification's Can, Fits and Tell compute. Once forth and once back is what narrowing again and again comes to: plain Lean. -/
import Derived.Test.YtifmedfpnnfmoaaGreatDoorAk15
import Derived.Test.YtifmedfpnnfmoaaGreatDoorAk16
namespace Go.Proofs.YtifmedfpnnfmoaaGreatDoor.Vm
open Go
set_option linter.unusedSimpArgs false
set_option linter.unusedVariables false
set_option maxHeartbeats 400000
structure Habit where
 step:Int
 place:Int
 sink:Int
 deriving Inhabited
@[simp] def Habit.cells (s:Habit):List PV:=[.int .i64 s.step,.int .i64 s.place,.int .i64 s.sink]
@[simp] theorem Habit.eta (s:Habit):(⟨s.step,s.place,s.sink⟩:Habit)=s:=rfl
structure Note where
 id:Int
 kind:Int
 fr:Int
 to:Int
 deriving Inhabited
@[simp] def Note.cells (s:Note):List PV:=[.int .i64 s.id,.int .i64 s.kind,.int .i64 s.fr,.int .i64 s.to]
@[simp] theorem Note.eta (s:Note):(⟨s.id,s.kind,s.fr,s.to⟩:Note)=s:=rfl
structure Life where
 habit:Habit
 sights:Sl Sight
 notes:Sl Note
 deriving Inhabited
@[simp] def Life.cells (s:Life):List PV:=[.int .i64 s.habit.step,.int .i64 s.habit.place,.int .i64 s.habit.sink,(s.sights).pv Sight.cells 9,(s.notes).pv Note.cells 4]
@[simp] theorem Life.eta (s:Life):(⟨s.habit,s.sights,s.notes⟩:Life)=s:=rfl
def inB (a b c:Int):Bool:=decide (b<=a)&&decide (a<=c)
def zbk (h:Habit):Bool:=inB h.step 0 10000&&inB h.place 0 10000&&inB h.sink 0 20
theorem sh68:G.shared 68=false:=by decide
theorem e68 (n:Nat) (h:Habit):zK G (n+2) 68 [.agg h.cells]=some (.bool (zbk h)):=by
 refine zy (zx _) rfl g68 rfl ?_
 (repeat' first|simp [*,ze,c68,Habit.cells,zbk,inB]|(apply zb<;>intro _ h<;>try simp [-Nat.le_zero_eq] at h))
@[simp] theorem d68 (n:Nat) (H:Heap) (h_step:Int) (h_place:Int) (h_sink:Int):zu (zg G (n+2)) H (.pure (.func 68 [])) [.pure (.agg [.int .i64 h_step,.int .i64 h_place,.int .i64 h_sink])]=some (.val (.pure ((fun (h:Habit)=>.bool (zbk h)) (⟨h_step,h_place,h_sink⟩:Habit)))) :=
 zi (ps:=[_]) (caps:=[]) sh68 (e68 n (⟨h_step,h_place,h_sink⟩:Habit))
def zcc (n:Note):Bool:=inB n.id 1 1099511627776&&inB n.kind 0 2&&decide (0<=n.fr)&&decide (n.fr<=n.to)&&decide (n.to<=4000)
def za5 (l:List Sight) (i:Nat):Bool:=zcY l[i]! && (decide (i=0)||decide (l[i-1]!.year < l[i]!.year))
theorem zaS {l:List Sight} {i:Nat} (h:i < l.length):za5 l i=(zcY l[i]&&(decide (i=0)||decide ((l[i-1]'(by omega)).year < l[i].year))):=by
 simp only [za5,getElem!_pos l i h,getElem!_pos l (i - 1) (by omega)]
def Life.ids (l:Life):List Int:=l.sights.xs.map (·.id)++l.notes.xs.map (·.id)
def allL {α:Type} (p:α->Bool):List α->Bool
 | []=>true
 | a::l=>p a&&allL p l
theorem zbU {α:Type} {p:α->Bool} {l:List α} {i:Nat} (h:i < l.length):allL p (l.drop i)=(p l[i]&&allL p (l.drop (i+1))):=by
 rw [List.drop_eq_getElem_cons h,allL]
theorem zfD {α:Type} {p:α->Bool} {l:List α} {i:Nat} (h:l.length<=i):allL p (l.drop i)=true:=by
 rw [List.drop_eq_nil_of_le h,allL]
def zai (l:Life):Int:=if zbk l.habit=false then 1 else if (l.sights.xs.length:Int) < 1\/9 < (l.sights.xs.length:Int)\/20 < (l.notes.xs.length:Int) then 2 else
 if zaG (za5 l.sights.xs) l.sights.xs.length l.sights.xs.length=false then 1 else if allL zcc l.notes.xs=false then 1 else if l.ids.Nodup then 0 else 6
theorem zjZ (l:List Int):(zY (zan l)).length < l.length↔¬ l.Nodup:=by
 have hs:∀ (l:List Int) (o:Option Int),l.Pairwise (·<=·)->(∀ x,o=some x->∀ y∈l,x<=y)->((goC o l).length < l.length↔¬ (l.Nodup/\∀ x,o=some x->x ∉ l)):=by
  intro l
  induction l with
  | nil=>intro o _ _;simp [goC]
  | cons a r ih =>
   intro o hp ho;rw [List.pairwise_cons] at hp;simp only [goC]
   split
   ·rename_i h;have:=ziZ r o
    constructor
    ·intro _ ⟨_,h2⟩;exact h2 a h (by simp)
    ·intro _;simp;omega
   ·rename_i h;rw [List.length_cons,List.length_cons,Nat.add_lt_add_iff_right,ih (some a) hp.2 (fun x hx y hy=>by simp at hx;subst hx;exact hp.1 y hy)];rw [not_congr];rw [List.nodup_cons]
    constructor
    ·rintro ⟨h1,h2⟩
     refine ⟨⟨h2 a rfl,h1⟩,fun x hx hm=>?_⟩
     rcases List.mem_cons.1 hm with rfl|hm
     ·exact h hx
     ·have h3:=ho x hx a (by simp);have h4:=hp.1 x hm;have:x=a:=by omega
      subst this;exact h hx
    ·rintro ⟨⟨h1,h2⟩,h3⟩;exact ⟨h2,fun x hx=>by simp at hx;subst hx;exact h1⟩
 have:=hs (zan l) none (zcI l) (fun x hx=>by simp at hx);rw [zbf] at this;rw [zY,this,(zcK l).nodup_iff];simp
theorem zlM (n:Nat) (args:List AV) (H:Heap) (r:AV×Heap) (h:zcS args H=some r):Vm.call G (n+1) (.fn 65) args H=some r:=by
 rw [zeJ];have:G.extRun 65 args H=zcS args H:=rfl;rw [this,h]
theorem zlA:G.shared 65=true:=by decide
theorem zhQ:G.shared 32=true:=by decide
theorem ziI:G.shared 70=true:=by decide
theorem sh29:G.shared 29=false:=by decide
theorem e29 (n:Nat) (l:Life) (hl:l.sights.xs.length<=9->l.notes.xs.length<=20->∀ s∈l.sights.xs,s.letters.length<=20):zK G (n+5) 29 [.agg l.cells]=some (.int .i64 (zai l)):=by
 refine zy (zx _) rfl g29 rfl ?_
 (repeat' first|simp [*,ze,c29]|(apply zb<;>intro _ h<;>try simp [-Nat.le_zero_eq] at h)|(show wpE 0 (zl ..) ..;refine zz ?_)|(refine zk fun v2 H2 hv2 hnx2 hget2 hnew2 hone2 hcel2=>?_))
 all_goals try first
  | (simp [zai, *];done)
  | (simp [zai, *];omega)
 have hP:Hide (zai l=if zaG (za5 l.sights.xs) l.sights.xs.length l.sights.xs.length=false then 1 else if allL zcc l.notes.xs=false then 1 else if l.ids.Nodup then 0 else 6):=by
  constructor
  rw [zai,if_neg (by simp [*])]
  split
  ·omega
  ·rfl
 generalize zai l=P at *
 refine zU [(2,6),(29,58)] (fun (i:Nat) env H=>env 29=.pure (.int .i64 i)/\i<=l.sights.xs.length/\GrowV intF 1 H (env 3) ((l.sights.xs.take i).map (·.id)) /\
   Hide (zaG (za5 l.sights.xs) l.sights.xs.length l.sights.xs.length=zaG (za5 l.sights.xs) l.sights.xs.length (l.sights.xs.length - i))) (fun i=>l.sights.xs.length - i) 0 ?_ ?_ ?_ ?_
 ·decide
 ·simp [GrowV.nil]
 ·simp only [zN];omega
 rintro i env H ⟨h5,hi,hg,hall⟩;have hfit:i < 9223372036854775807:=by omega
 have hp1:i - 1 < l.sights.xs.length:=by omega
 have bad:∀ h:i < l.sights.xs.length,za5 l.sights.xs i=false->Hide (P=1):=fun h h1=>⟨by rw [hP.h,hall.h,zdR h,h1];simp⟩
 have good:∀ h:i < l.sights.xs.length,za5 l.sights.xs i=true->Hide (zaG (za5 l.sights.xs) l.sights.xs.length l.sights.xs.length=zaG (za5 l.sights.xs) l.sights.xs.length (l.sights.xs.length - (i+1))):=fun h h1=>⟨by rw [hall.h,zdR h,h1];simp⟩
 (repeat' first|simp [*,ze,zf0]|(apply zb<;>intro _ h<;>try simp [-Nat.le_zero_eq] at h)|(show wpE 0 (zl ..) ..;refine zz ?_)|(refine zk fun v2 H2 hv2 hnx2 hget2 hnew2 hone2 hcel2=>?_))
 all_goals try (exact (bad (by assumption) (by first|(simp [zaS, *];done)|(simp [zaS, *];omega))).h.symm)
 all_goals try (refine ⟨i+1,by omega,by simp,by omega,?_,good (by assumption) (by first|(simp [zaS, *];done)|(simp [zaS, *];omega))⟩;refine hv2.cast ?_;simp [List.take_add_one, *];done)
 have hn:i=l.sights.xs.length:=by omega
 subst hn;clear bad good h5 hp1 hi hfit;rw [List.take_length] at hg;have hP2:Hide (P=if allL zcc l.notes.xs=false then 1 else if l.ids.Nodup then 0 else 6):=⟨by rw [hP.h,hall.h,zhX (Nat.le_refl _)];rfl⟩
 clear hP hall
 refine zU [(2,3),(8,8),(62,98)] (fun (i:Nat) env H=>env 62=.pure (.int .i64 i)/\i<=l.notes.xs.length/\GrowV intF 1 H (env 3) (l.sights.xs.map (·.id)++(l.notes.xs.take i).map (·.id)) /\
   Hide (allL zcc l.notes.xs=allL zcc (l.notes.xs.drop i))) (fun i=>l.notes.xs.length - i) 0 ?_ ?_ ?_ ?_
 ·decide
 ·simp [hg]
 ·simp only [zN];omega
 rintro i env H ⟨h5,hi,hg,hall⟩;have hfit:i < 9223372036854775807:=by omega
 have bad:∀ h:i < l.notes.xs.length,zcc l.notes.xs[i]=false->Hide (P=1):=fun h h1=>⟨by rw [hP2.h,hall.h,zbU h,h1];simp⟩
 have good:∀ h:i < l.notes.xs.length,zcc l.notes.xs[i]=true->Hide (allL zcc l.notes.xs=allL zcc (l.notes.xs.drop (i+1))):=fun h h1=>⟨by rw [hall.h,zbU h,h1];simp⟩
 (repeat' first|simp [*,ze]|(apply zb<;>intro _ h<;>try simp [-Nat.le_zero_eq] at h)|(show wpE 0 (zl ..) ..;refine zz ?_)|(refine zk fun v2 H2 hv2 hnx2 hget2 hnew2 hone2 hcel2=>?_))
 all_goals try (exact (bad (by assumption) (by first|(simp [zcc,inB, *];done)|(simp [zcc,inB, *];omega))).h.symm)
 all_goals try (refine ⟨i+1,by omega,by simp,by omega,?_,good (by assumption) (by first|(simp [zcc,inB, *];done)|(simp [zcc,inB, *];omega))⟩;refine hv2.cast ?_;simp [List.take_add_one, *];done)
 have hn:i=l.notes.xs.length:=by omega
 subst hn;have hP3:Hide (P=if l.ids.Nodup then 0 else 6):=⟨by rw [hP2.h,hall.h,zfD (Nat.le_refl _)];rfl⟩
 have hids:l.sights.xs.map (·.id)++(l.notes.xs.take l.notes.xs.length).map (·.id)=l.ids:=by rw [List.take_length];rfl
 rw [hids] at hg;have hlen:l.ids.length < 100:=by simp [Life.ids];omega
 have hne:l.ids≠[]:=by
  intro h0;have h1:l.ids.length=0:=by rw [h0];rfl
  have h2:l.ids.length=l.sights.xs.length+l.notes.xs.length:=by simp [Life.ids]
  omega
 clear bad good hfit hP2 hall hi h5 hids;generalize l.ids=ids at *;obtain ⟨id,hrow,hget⟩:=hg.1.row hne;obtain ⟨H1,hs1,hs2,hs3,hs4,hs5⟩:=zhz (v:=env 3) (l:=ids) ⟨id,[],hrow,by rw [List.append_nil];exact hget⟩ (by simp [zq];omega);rw [hrow] at hs5;have hget1:=hs5 id rfl hget;clear hs2 hs5
 refine zeK (caps:=[]) zlA ⟨_,_,zlM _ _ _ _ hs1,?_⟩
 (repeat' first|simp [*,ze]|(apply zb<;>intro _ h<;>try simp [-Nat.le_zero_eq] at h)|(show wpE 0 (zl ..) ..;refine zz ?_)|(refine zk fun v2 H2 hv2 hnx2 hget2 hnew2 hone2 hcel2=>?_));have il:=zbf ids
 refine zeK (caps:=[]) zhQ ?_
 have hsc:zH H1 1 (.row id 1 0 ids.length)=some (zn intF (zan ids),(zan ids).length):=by
  rw [zdc,hget1];have:=zR (f:=intF) (sz:=1) (fun _=>rfl) (zan ids);simp only [zdg];rw [if_pos (by omega),Nat.zero_mul,List.drop_zero,List.take_of_length_le (by omega),il]
 refine zfn (b:=false) (fun _=>rfl) g32 hsc rfl (fun h=>by cases h) (fun _=>rfl) (by decide) (fun _=>rfl) (by simp [zq];omega) ?_
 intro v2 H2 hv2 hnil hnx hget2 hnew;obtain ⟨id2,hrow2,hget3⟩:=hv2.row (by intro h;rw [h] at il;simp at il;exact hne (List.eq_nil_of_length_eq_zero il.symm));subst hrow2;(repeat' first|simp [*,ze]|(apply zb<;>intro _ h<;>try simp [-Nat.le_zero_eq] at h)|(show wpE 0 (zl ..) ..;refine zz ?_)|(refine zk fun v2 H2 hv2 hnx2 hget2 hnew2 hone2 hcel2=>?_))
 refine zeK (caps:=[]) ziI ?_
 refine zhh (fun _ _=>rfl) g70 hget3 (by omega) il.symm ?_
 rintro v3 H3 ⟨id3,rest,hrow3,hg3⟩ hnx3 hoth3 hnam3;subst hrow3;have hnl:Hide _:=⟨zjZ ids⟩
 (repeat' first|simp [*,ze]|(apply zb<;>intro _ h<;>try simp [-Nat.le_zero_eq] at h)|(show wpE 0 (zl ..) ..;refine zz ?_)|(refine zk fun v2 H2 hv2 hnx2 hget2 hnew2 hone2 hcel2=>?_))
 ·have hc:(zY (zan ids)).length < ids.length:=by assumption
  rw [hP3.h,if_neg (hnl.h.1 hc)]
 ·have hc:¬ (zY (zan ids)).length < ids.length:=by omega
  rw [hP3.h,if_pos (Classical.byContradiction fun h=>hc (hnl.h.2 h))]
@[simp] theorem d29 (n:Nat) (H:Heap) (l_habit_step:Int) (l_habit_place:Int) (l_habit_sink:Int) (l_sights:Sl Sight) (l_notes:Sl Note) (hl:(fun (l:Life)=>l.sights.xs.length<=9->l.notes.xs.length<=20->∀ s∈l.sights.xs,s.letters.length<=20) (⟨⟨l_habit_step,l_habit_place,l_habit_sink⟩,l_sights,l_notes⟩:Life)):zu (zg G (n+5)) H (.pure (.func 29 [])) [.pure (.agg [.int .i64 l_habit_step,.int .i64 l_habit_place,.int .i64 l_habit_sink,(l_sights).pv Sight.cells 9,(l_notes).pv Note.cells 4])]=some (.val (.pure ((fun (l:Life)=>.int .i64 (zai l)) (⟨⟨l_habit_step,l_habit_place,l_habit_sink⟩,l_sights,l_notes⟩:Life)))) :=
 zi (ps:=[_]) (caps:=[]) sh29 (e29 n (⟨⟨l_habit_step,l_habit_place,l_habit_sink⟩,l_sights,l_notes⟩:Life) hl)
set_option maxHeartbeats 4000000
def gapB (k:Int):Bool:=!(decide (0<=k)&&decide (k<=2))
def zeg (l:Life) (c:List Int):Bool:=decide ((c.length:Int)=l.sights.xs.length - 1) && !c.any gapB
theorem znT:G.shared 114=false:=by decide
theorem e114 (n:Nat) (k:Int):zK G (n+2) 114 [.int .i64 k]=some (.bool (gapB k)):=by
 refine zy (zx _) rfl g114 rfl ?_
 (repeat' first|simp [*,ze,c114,gapB]|(apply zb<;>intro _ h<;>try simp [-Nat.le_zero_eq] at h))
@[simp] theorem d114 (n:Nat) (H:Heap) (k:Int):zu (zg G (n+2)) H (.pure (.func 114 [])) [.pure (.int .i64 k)]=some (.val (.pure (.bool (gapB k)))) :=
 zi (ps:=[_]) (caps:=[]) znT (e114 n k)
theorem znQ:G.shared 113=false:=by decide
theorem e113 (n:Nat) (c:Sl Int) (hc:c.xs.length < 1000):zK G (n+4) 113 [c.pv intF 1,.func 114 []]=some (.bool (c.xs.any gapB)):=by
 refine zy (zx _) rfl g113 rfl ?_
 have h:=zfG (n:=n+2) (f:=intF) (sz:=1) (g:=false) (p:=.func 114 []) (q:=gapB) (s:=c) (zx 145) (fun _ _=>rfl) g145 (fun _=>rfl) (by omega) (fun H a ha=>⟨.pure (.int .i64 a),rfl,d114 n H a⟩);have hd:∀ H,zu (zg G (n+3)) H (.pure (.func 145 [])) [.pure (c.pv intF 1),.pure (.func 114 [])]=some (.val (.pure (.int .i64 (idxL gapB c.xs 0)))):=fun H=>zge (ps:=[_,_]) (by decide) h;have ha:=zhJ gapB c.xs 0;(repeat' first|simp [*,ze,c113,ha]|(apply zb<;>intro _ h<;>try simp [-Nat.le_zero_eq] at h))
@[simp] theorem d113 (n:Nat) (H:Heap) (c:Sl Int) (hc:c.xs.length < 1000):zu (zg G (n+4)) H (.pure (.func 113 [])) [.pure (c.pv intF 1),.pure (.func 114 [])]=some (.val (.pure (.bool (c.xs.any gapB)))) :=
 zi (ps:=[_,_]) (caps:=[]) znQ (e113 n c hc)
theorem sh83:G.shared 83=false:=by decide
theorem e83 (n:Nat) (l:Life) (c:Sl Int) (hc:c.xs.length < 1000) (hl:l.sights.xs.length < 1000):zK G (n+5) 83 [.agg l.cells,c.pv intF 1]=some (.bool (zeg l c.xs)):=by
 refine zy (zx _) rfl g83 rfl ?_
 have hw:IntKind.i64.wrap ((l.sights.xs.length:Int) - 1)=(l.sights.xs.length:Int) - 1:=wrap64 (by omega) (by omega);(repeat' first|simp [*,ze,c83,zeg]|(apply zb<;>intro _ h<;>try simp [-Nat.le_zero_eq] at h))
@[simp] theorem d83 (n:Nat) (H:Heap) (l_habit_step:Int) (l_habit_place:Int) (l_habit_sink:Int) (l_sights:Sl Sight) (l_notes:Sl Note) (c:Sl Int) (hc:c.xs.length < 1000) (hl:(fun (l:Life)=>l.sights.xs.length < 1000) (⟨⟨l_habit_step,l_habit_place,l_habit_sink⟩,l_sights,l_notes⟩:Life)):zu (zg G (n+5)) H (.pure (.func 83 [])) [.pure (.agg [.int .i64 l_habit_step,.int .i64 l_habit_place,.int .i64 l_habit_sink,(l_sights).pv Sight.cells 9,(l_notes).pv Note.cells 4]),.pure (c.pv intF 1)]=some (.val (.pure ((fun (l:Life)=>.bool (zeg l c.xs)) (⟨⟨l_habit_step,l_habit_place,l_habit_sink⟩,l_sights,l_notes⟩:Life)))) :=
 zi (ps:=[_,_]) (caps:=[]) sh83 (e83 n (⟨⟨l_habit_step,l_habit_place,l_habit_sink⟩,l_sights,l_notes⟩:Life) c hc hl)
def badN (l:List Sight) (n:Note) (c:List Int) (k:Nat):Bool:=decide (n.kind=0)&&decide (n.fr<=l[k]!.year)&&decide (l[k+1]!.year<=n.to) && !decide (c[k]! = 0)
def hitN (l:List Sight) (n:Note) (c:List Int) (k:Nat):Bool:=decide (l[k]!.year<=n.to)&&decide (n.fr<=l[k+1]!.year)&&decide (c[k]! = n.kind)
def za3 (l:List Sight) (n:Note) (c:List Int):Bool:=!zbx (badN l n c) c.length&&(zbx (hitN l n c) c.length||decide (n.kind=0))
theorem zeL {l:List Sight} {n:Note} {c:List Int} {k:Nat} (h:k < c.length) (h1:k+1 < l.length):badN l n c k=(decide (n.kind=0)&&decide (n.fr<=l[k].year)&&decide (l[k+1].year<=n.to) && !decide (c[k]=0)):=by
 simp only [badN,getElem!_pos c k h,getElem!_pos l k (by omega),getElem!_pos l (k+1) h1]
theorem zjk {l:List Sight} {n:Note} {c:List Int} {k:Nat} (h:k < c.length) (h1:k+1 < l.length):hitN l n c k=(decide (l[k].year<=n.to)&&decide (n.fr<=l[k+1].year)&&decide (c[k]=n.kind)):=by
 simp only [hitN,getElem!_pos c k h,getElem!_pos l k (by omega),getElem!_pos l (k+1) h1]
theorem sh53:G.shared 53=false:=by decide
theorem e53 (n:Nat) (l:Life) (m:Note) (c:Sl Int) (hc:c.xs.length+1<=l.sights.xs.length) (hl:l.sights.xs.length < 1000):zK G (n+1) 53 [.agg l.cells,.agg m.cells,c.pv intF 1]=some (.bool (za3 l.sights.xs m c.xs)):=by
 refine zy (zx _) rfl g53 rfl ?_
 (repeat' first|simp [*,ze,c53]|(apply zb<;>intro _ h<;>try simp [-Nat.le_zero_eq] at h));have hP:Hide (za3 l.sights.xs m c.xs=(!zbx (badN l.sights.xs m c.xs) c.xs.length&&(zbx (hitN l.sights.xs m c.xs) c.xs.length||decide (m.kind=0)))):=⟨rfl⟩
 generalize za3 l.sights.xs m c.xs=P at *
 refine zU [(6,11),(14,70)] (fun (i:Nat) env H=>env 14=.pure (.int .i64 i)/\i<=c.xs.length/\env 7=.pure (.bool (zbx (hitN l.sights.xs m c.xs) i))/\Hide (zbx (badN l.sights.xs m c.xs) i=false)) (fun i=>c.xs.length - i) 0 ?_ ?_ ?_ ?_
 ·decide
 ·simp [zbx]
 ·simp only [zN];omega
 rintro i env H ⟨h14,hi,h7,hn⟩;have hfit:i < 9223372036854775807:=by omega
 have hi1:i < c.xs.length->i+1 < l.sights.xs.length:=fun h=>by omega
 have hi0:i < c.xs.length->i < l.sights.xs.length:=fun h=>by omega
 have bad:∀ h:i < c.xs.length,badN l.sights.xs m c.xs i=true->Hide (P=false):=fun h h1=>⟨by rw [hP.h,zk9 h h1];rfl⟩
 have good:∀ h:i < c.xs.length,badN l.sights.xs m c.xs i=false->Hide (zbx (badN l.sights.xs m c.xs) (i+1)=false):=fun h h1=>⟨by rw [zbx,hn.h,h1];rfl⟩
 have hst:∀ h:i < c.xs.length,zbx (hitN l.sights.xs m c.xs) (i+1)=(zbx (hitN l.sights.xs m c.xs) i||hitN l.sights.xs m c.xs i):=fun h=>rfl;generalize hsm:zbx (hitN l.sights.xs m c.xs) i=sm at *;(repeat' first|simp [*,ze]|(apply zb<;>intro _ h<;>try simp [-Nat.le_zero_eq] at h))
 all_goals try (exact (bad (by assumption) (by first|(simp [zeL, *];done)|(simp [zeL, *];omega))).h)
 all_goals try (exact ⟨i+1,by omega,by simp,by omega,by first|(rw [hst (by assumption)];simp [zjk, *];done)|(rw [hst (by assumption)];simp [zjk, *];omega),good (by assumption) (by first|(simp [zeL, *];done)|(simp [zeL, *];omega))⟩)
 all_goals
  have:i=c.xs.length:=by omega
  subst this;rw [hP.h,hn.h,hsm];simp [*]
@[simp] theorem d53 (n:Nat) (H:Heap) (l_habit_step:Int) (l_habit_place:Int) (l_habit_sink:Int) (l_sights:Sl Sight) (l_notes:Sl Note) (m_id:Int) (m_kind:Int) (m_fr:Int) (m_to:Int) (c:Sl Int) (hc:(fun (l:Life)=>c.xs.length+1<=l.sights.xs.length) (⟨⟨l_habit_step,l_habit_place,l_habit_sink⟩,l_sights,l_notes⟩:Life)) (hl:(fun (l:Life)=>l.sights.xs.length < 1000) (⟨⟨l_habit_step,l_habit_place,l_habit_sink⟩,l_sights,l_notes⟩:Life)):zu (zg G (n+1)) H (.pure (.func 53 [])) [.pure (.agg [.int .i64 l_habit_step,.int .i64 l_habit_place,.int .i64 l_habit_sink,(l_sights).pv Sight.cells 9,(l_notes).pv Note.cells 4]),.pure (.agg [.int .i64 m_id,.int .i64 m_kind,.int .i64 m_fr,.int .i64 m_to]),.pure (c.pv intF 1)]=some (.val (.pure ((fun (l:Life)=>(fun (m:Note)=>.bool (za3 l.sights.xs m c.xs)) (⟨m_id,m_kind,m_fr,m_to⟩:Note)) (⟨⟨l_habit_step,l_habit_place,l_habit_sink⟩,l_sights,l_notes⟩:Life)))) :=
 zi (ps:=[_,_,_]) (caps:=[]) sh53 (e53 n (⟨⟨l_habit_step,l_habit_place,l_habit_sink⟩,l_sights,l_notes⟩:Life) (⟨m_id,m_kind,m_fr,m_to⟩:Note) c hc hl)
def zaA (a b:Span):Span:=⟨max a.lo b.lo,min a.hi b.hi⟩
def onD (d:Int) (s:Span):Span:=⟨s.lo - d,s.hi+d⟩
def okSp (s:Span):Prop:=-1048576<=s.lo/\s.lo<=1048576/\-1048576<=s.hi/\s.hi<=1048576
theorem zoc:G.shared 118=false:=by decide
theorem e118 (n:Nat) (a b:Span):zK G (n+1) 118 [.agg a.cells,.agg b.cells]=some (.agg (zaA a b).cells):=by
 refine zy (zx _) rfl g118 rfl ?_
 (repeat' first|simp [*,ze,c118,zaA]|(apply zb<;>intro _ h<;>try simp [-Nat.le_zero_eq] at h))
@[simp] theorem d118 (n:Nat) (H:Heap) (a_lo:Int) (a_hi:Int) (b_lo:Int) (b_hi:Int):zu (zg G (n+1)) H (.pure (.func 118 [])) [.pure (.agg [.int .i64 a_lo,.int .i64 a_hi]),.pure (.agg [.int .i64 b_lo,.int .i64 b_hi])]=some (.val (.pure ((fun (a:Span)=>(fun (b:Span)=>.agg (zaA a b).cells) (⟨b_lo,b_hi⟩:Span)) (⟨a_lo,a_hi⟩:Span)))) :=
 zi (ps:=[_,_]) (caps:=[]) zoc (e118 n (⟨a_lo,a_hi⟩:Span) (⟨b_lo,b_hi⟩:Span))
theorem zof:G.shared 119=false:=by decide
theorem e119 (n:Nat) (s:Span):zK G (n+1) 119 [.agg s.cells]=some (.bool (decide (s.hi < s.lo))):=by
 refine zy (zx _) rfl g119 rfl ?_
 (repeat' first|simp [*,ze,c119]|(apply zb<;>intro _ h<;>try simp [-Nat.le_zero_eq] at h))
@[simp] theorem d119 (n:Nat) (H:Heap) (s_lo:Int) (s_hi:Int):zu (zg G (n+1)) H (.pure (.func 119 [])) [.pure (.agg [.int .i64 s_lo,.int .i64 s_hi])]=some (.val (.pure ((fun (s:Span)=>.bool (decide (s.hi < s.lo))) (⟨s_lo,s_hi⟩:Span)))) :=
 zi (ps:=[_]) (caps:=[]) zof (e119 n (⟨s_lo,s_hi⟩:Span))
theorem znX:G.shared 159=false:=by decide
theorem e159 (n:Nat) (s:Span) (y d:Int) (hs:okSp s) (hd:0<=d/\d<=1000000):zK G (n+1) 159 [.agg s.cells,.int .i64 y,.ptr false [.int .i64 d] 0]=some (.agg (onD d s).cells):=by
 refine zy (zx _) rfl g159 rfl ?_
 have h1:IntKind.i64.wrap (s.lo - d)=s.lo - d:=by unfold okSp at hs;exact wrap64 (by omega) (by omega)
 have h2:IntKind.i64.wrap (s.hi+d)=s.hi+d:=by unfold okSp at hs;exact wrap64 (by omega) (by omega)
 (repeat' first|simp [*,ze,c159,onD]|(apply zb<;>intro _ h<;>try simp [-Nat.le_zero_eq] at h))
@[simp] theorem d159 (n:Nat) (H:Heap) (s_lo:Int) (s_hi:Int) (y:Int) (d:Int) (hs:(fun (s:Span)=>okSp s) (⟨s_lo,s_hi⟩:Span)) (hd:0<=d/\d<=1000000):zu (zg G (n+1)) H (.pure (.func 159 [.ptr false [.int .i64 d] 0])) [.pure (.agg [.int .i64 s_lo,.int .i64 s_hi]),.pure (.int .i64 y)]=some (.val (.pure ((fun (s:Span)=>.agg (onD d s).cells) (⟨s_lo,s_hi⟩:Span)))) :=
 zi (ps:=[_,_]) (caps:=[_]) znX (e159 n (⟨s_lo,s_hi⟩:Span) y d hs hd)
@[simp] def zb2 (d:Int):List PV:=[.func 159 [.ptr false [.int .i64 d] 0],.func 159 [.ptr false [.int .i64 d] 0]]
theorem zn1:G.shared 146=false:=by decide
theorem e146 (n:Nat) (d:Int):zK G (n+1) 146 [.int .i64 d]=some (.agg (zb2 d)):=by
 refine zy (zx _) rfl g146 rfl ?_
 (repeat' first|simp [*,ze,c146,zb2]|(apply zb<;>intro _ h<;>try simp [-Nat.le_zero_eq] at h))
@[simp] theorem d146 (n:Nat) (H:Heap) (d:Int):zu (zg G (n+1)) H (.pure (.func 146 [])) [.pure (.int .i64 d)]=some (.val (.pure (.agg (zb2 d)))) :=
 zi (ps:=[_]) (caps:=[]) zn1 (e146 n d)
theorem zod:G.shared 115=false:=by decide
theorem e115 (n:Nat) (h:Habit):zK G (n+2) 115 [.agg h.cells]=some (.agg (zb2 0)):=by
 refine zy (zx _) rfl g115 rfl ?_
 (repeat' first|simp [*,ze,c115]|(apply zb<;>intro _ h<;>try simp [-Nat.le_zero_eq] at h))
@[simp] theorem d115 (n:Nat) (H:Heap) (h_step:Int) (h_place:Int) (h_sink:Int):zu (zg G (n+2)) H (.pure (.func 115 [])) [.pure (.agg [.int .i64 h_step,.int .i64 h_place,.int .i64 h_sink])]=some (.val (.pure (.agg (zb2 0)))) :=
 zi (ps:=[_]) (caps:=[]) zod (e115 n (⟨h_step,h_place,h_sink⟩:Habit))
theorem znF:G.shared 116=false:=by decide
theorem e116 (n:Nat) (h:Habit):zK G (n+2) 116 [.agg h.cells]=some (.agg (zb2 h.step)):=by
 refine zy (zx _) rfl g116 rfl ?_
 (repeat' first|simp [*,ze,c116]|(apply zb<;>intro _ h<;>try simp [-Nat.le_zero_eq] at h))
@[simp] theorem d116 (n:Nat) (H:Heap) (h_step:Int) (h_place:Int) (h_sink:Int):zu (zg G (n+2)) H (.pure (.func 116 [])) [.pure (.agg [.int .i64 h_step,.int .i64 h_place,.int .i64 h_sink])]=some (.val (.pure ((fun (h:Habit)=>.agg (zb2 h.step)) (⟨h_step,h_place,h_sink⟩:Habit)))) :=
 zi (ps:=[_]) (caps:=[]) znF (e116 n (⟨h_step,h_place,h_sink⟩:Habit))
theorem zol:G.shared 117=false:=by decide
theorem e117 (n:Nat) (h:Habit):zK G (n+2) 117 [.agg h.cells]=some (.agg (zb2 h.place)):=by
 refine zy (zx _) rfl g117 rfl ?_
 (repeat' first|simp [*,ze,c117]|(apply zb<;>intro _ h<;>try simp [-Nat.le_zero_eq] at h))
@[simp] theorem d117 (n:Nat) (H:Heap) (h_step:Int) (h_place:Int) (h_sink:Int):zu (zg G (n+2)) H (.pure (.func 117 [])) [.pure (.agg [.int .i64 h_step,.int .i64 h_place,.int .i64 h_sink])]=some (.val (.pure ((fun (h:Habit)=>.agg (zb2 h.place)) (⟨h_step,h_place,h_sink⟩:Habit)))) :=
 zi (ps:=[_]) (caps:=[]) zol (e117 n (⟨h_step,h_place,h_sink⟩:Habit))
theorem sh85:G.shared 85=false:=by decide
theorem e85 (n:Nat) :zK G (n+1) 85 []=some (.agg [.func 115 [],.func 116 [],.func 117 []]):=by
 refine zy (zx _) rfl g85 rfl ?_
 (repeat' first|simp [*,ze,c85]|(apply zb<;>intro _ h<;>try simp [-Nat.le_zero_eq] at h))
@[simp] theorem d85 (n:Nat) (H:Heap) :zu (zg G (n+1)) H (.pure (.func 85 [])) []=some (.val (.pure (.agg [.func 115 [],.func 116 [],.func 117 []]))) :=
 zi (ps:=[]) (caps:=[]) sh85 (e85 n )
def farD (h:Habit) (k:Int):Int:=if k=1 then h.step else if k=2 then h.place else 0
theorem sh84:G.shared 84=false:=by decide
theorem e84 (n:Nat) (l:Life) (c:Sl Int) (k:Nat) (hk:k < c.xs.length) (h0:0<=c.xs[k]! /\ c.xs[k]! <= 2):zK G (n+3) 84 [.int .i64 (k:Nat),.ptr false [c.pv intF 1] 0,.ptr false l.cells 0]=some (.agg (zb2 (farD l.habit c.xs[k]!))):=by
 refine zy (zx _) rfl g84 rfl ?_
 rw [getElem!_pos c.xs k hk] at h0 ⊢;have h3:c.xs[k]=0\/c.xs[k]=1\/c.xs[k]=2:=by omega
 rcases h3 with h3|h3|h3
 ·(repeat' first|simp [*,ze,c84,farD]|(apply zb<;>intro _ h<;>try simp [-Nat.le_zero_eq] at h))
 ·(repeat' first|simp [*,ze,c84,farD]|(apply zb<;>intro _ h<;>try simp [-Nat.le_zero_eq] at h))
 ·(repeat' first|simp [*,ze,c84,farD]|(apply zb<;>intro _ h<;>try simp [-Nat.le_zero_eq] at h))
@[simp] theorem d84 (n:Nat) (H:Heap) (l_habit_step:Int) (l_habit_place:Int) (l_habit_sink:Int) (l_sights:Sl Sight) (l_notes:Sl Note) (c:Sl Int) (k:Nat) (hk:k < c.xs.length) (h0:0<=c.xs[k]! /\ c.xs[k]! <= 2):zu (zg G (n+3)) H (.pure (.func 84 [.ptr false [c.pv intF 1] 0,.ptr false [.int .i64 l_habit_step,.int .i64 l_habit_place,.int .i64 l_habit_sink,(l_sights).pv Sight.cells 9,(l_notes).pv Note.cells 4] 0])) [.pure (.int .i64 (k:Nat))]=some (.val (.pure ((fun (l:Life)=>.agg (zb2 (farD l.habit c.xs[k]!))) (⟨⟨l_habit_step,l_habit_place,l_habit_sink⟩,l_sights,l_notes⟩:Life)))) :=
 zi (ps:=[_]) (caps:=[_,_]) sh84 (e84 n (⟨⟨l_habit_step,l_habit_place,l_habit_sink⟩,l_sights,l_notes⟩:Life) c k hk h0)
theorem sh87:G.shared 87=false:=by decide
theorem e87 (n:Nat) (s:Sight):zK G (n+1) 87 [.agg s.cells]=some (.agg s.box.x.cells):=by
 refine zy (zx _) rfl g87 rfl ?_
 (repeat' first|simp [*,ze,c87]|(apply zb<;>intro _ h<;>try simp [-Nat.le_zero_eq] at h))
@[simp] theorem d87 (n:Nat) (H:Heap) (s_id:Int) (s_year:Int) (s_box_x_lo:Int) (s_box_x_hi:Int) (s_box_y_lo:Int) (s_box_y_hi:Int) (s_letters:List UInt8) (s_height_lo:Int) (s_height_hi:Int):zu (zg G (n+1)) H (.pure (.func 87 [])) [.pure (.agg [.int .i64 s_id,.int .i64 s_year,.int .i64 s_box_x_lo,.int .i64 s_box_x_hi,.int .i64 s_box_y_lo,.int .i64 s_box_y_hi,.str ⟨(s_letters).toArray⟩,.int .i64 s_height_lo,.int .i64 s_height_hi])]=some (.val (.pure ((fun (s:Sight)=>.agg s.box.x.cells) (⟨s_id,s_year,⟨⟨s_box_x_lo,s_box_x_hi⟩,⟨s_box_y_lo,s_box_y_hi⟩⟩,s_letters,⟨s_height_lo,s_height_hi⟩⟩:Sight)))) :=
 zi (ps:=[_]) (caps:=[]) sh87 (e87 n (⟨s_id,s_year,⟨⟨s_box_x_lo,s_box_x_hi⟩,⟨s_box_y_lo,s_box_y_hi⟩⟩,s_letters,⟨s_height_lo,s_height_hi⟩⟩:Sight))
theorem sh88:G.shared 88=false:=by decide
theorem e88 (n:Nat) (s:Sight):zK G (n+1) 88 [.agg s.cells]=some (.agg s.box.y.cells):=by
 refine zy (zx _) rfl g88 rfl ?_
 (repeat' first|simp [*,ze,c88]|(apply zb<;>intro _ h<;>try simp [-Nat.le_zero_eq] at h))
@[simp] theorem d88 (n:Nat) (H:Heap) (s_id:Int) (s_year:Int) (s_box_x_lo:Int) (s_box_x_hi:Int) (s_box_y_lo:Int) (s_box_y_hi:Int) (s_letters:List UInt8) (s_height_lo:Int) (s_height_hi:Int):zu (zg G (n+1)) H (.pure (.func 88 [])) [.pure (.agg [.int .i64 s_id,.int .i64 s_year,.int .i64 s_box_x_lo,.int .i64 s_box_x_hi,.int .i64 s_box_y_lo,.int .i64 s_box_y_hi,.str ⟨(s_letters).toArray⟩,.int .i64 s_height_lo,.int .i64 s_height_hi])]=some (.val (.pure ((fun (s:Sight)=>.agg s.box.y.cells) (⟨s_id,s_year,⟨⟨s_box_x_lo,s_box_x_hi⟩,⟨s_box_y_lo,s_box_y_hi⟩⟩,s_letters,⟨s_height_lo,s_height_hi⟩⟩:Sight)))) :=
 zi (ps:=[_]) (caps:=[]) sh88 (e88 n (⟨s_id,s_year,⟨⟨s_box_x_lo,s_box_x_hi⟩,⟨s_box_y_lo,s_box_y_hi⟩⟩,s_letters,⟨s_height_lo,s_height_hi⟩⟩:Sight))
theorem sh89:G.shared 89=false:=by decide
theorem e89 (n:Nat) (s:Sight):zK G (n+1) 89 [.agg s.cells]=some (.agg s.height.cells):=by
 refine zy (zx _) rfl g89 rfl ?_
 (repeat' first|simp [*,ze,c89]|(apply zb<;>intro _ h<;>try simp [-Nat.le_zero_eq] at h))
@[simp] theorem d89 (n:Nat) (H:Heap) (s_id:Int) (s_year:Int) (s_box_x_lo:Int) (s_box_x_hi:Int) (s_box_y_lo:Int) (s_box_y_hi:Int) (s_letters:List UInt8) (s_height_lo:Int) (s_height_hi:Int):zu (zg G (n+1)) H (.pure (.func 89 [])) [.pure (.agg [.int .i64 s_id,.int .i64 s_year,.int .i64 s_box_x_lo,.int .i64 s_box_x_hi,.int .i64 s_box_y_lo,.int .i64 s_box_y_hi,.str ⟨(s_letters).toArray⟩,.int .i64 s_height_lo,.int .i64 s_height_hi])]=some (.val (.pure ((fun (s:Sight)=>.agg s.height.cells) (⟨s_id,s_year,⟨⟨s_box_x_lo,s_box_x_hi⟩,⟨s_box_y_lo,s_box_y_hi⟩⟩,s_letters,⟨s_height_lo,s_height_hi⟩⟩:Sight)))) :=
 zi (ps:=[_]) (caps:=[]) sh89 (e89 n (⟨s_id,s_year,⟨⟨s_box_x_lo,s_box_x_hi⟩,⟨s_box_y_lo,s_box_y_hi⟩⟩,s_letters,⟨s_height_lo,s_height_hi⟩⟩:Sight))
def upH (h:Habit) (k y:Int) (s:Span):Span:=if k=0 then ⟨s.lo - h.sink*y,s.hi⟩ else ⟨0,100⟩
def zcE (h:Habit) (k y:Int) (s:Span):Span:=if k=0 then ⟨s.lo,s.hi+h.sink*y⟩ else ⟨0,100⟩
def hPtr (h:Habit):PV:=.ptr false h.cells 0
def upF (h:Habit) (k:Int):PV:=if k=0 then .func 121 [hPtr h] else .func 120 []
def zcZ (h:Habit) (k:Int):PV:=if k=0 then .func 122 [hPtr h] else .func 120 []
@[simp] theorem zot (h:Habit) (k:Int):AV.one (.pure (upF h k))=true:=by unfold upF;split<;>rfl
@[simp] theorem znn (h:Habit) (k:Int):AV.one (.pure (zcZ h k))=true:=by unfold zcZ;split<;>rfl
@[simp] theorem zkp (h:Habit) (k:Int):AV.cells (.pure (upF h k))=[.pure (upF h k)]:=by unfold upF;split<;>rfl
@[simp] theorem zhH (h:Habit) (k:Int):AV.cells (.pure (zcZ h k))=[.pure (zcZ h k)]:=by unfold zcZ;split<;>rfl
theorem zn2:G.shared 120=false:=by decide
theorem e120 (n:Nat) (s:Span) (y:Int):zK G (n+1) 120 [.agg s.cells,.int .i64 y]=some (.agg [.int .i64 0,.int .i64 100]):=by
 refine zy (zx _) rfl g120 rfl ?_
 (repeat' first|simp [*,ze,c120]|(apply zb<;>intro _ h<;>try simp [-Nat.le_zero_eq] at h))
@[simp] theorem d120 (n:Nat) (H:Heap) (s_lo:Int) (s_hi:Int) (y:Int):zu (zg G (n+1)) H (.pure (.func 120 [])) [.pure (.agg [.int .i64 s_lo,.int .i64 s_hi]),.pure (.int .i64 y)]=some (.val (.pure (.agg [.int .i64 0,.int .i64 100]))) :=
 zi (ps:=[_,_]) (caps:=[]) zn2 (e120 n (⟨s_lo,s_hi⟩:Span) y)
theorem zdo {h:Habit} {y:Int} (hh:zbk h=true) (hy:0<=y/\y<=4000):0<=h.sink*y/\h.sink*y<=80000:=by
 simp [zbk,inB] at hh
 refine ⟨Int.mul_nonneg (by omega) hy.1,?_⟩
 have:h.sink*y<=20*4000:=Int.mul_le_mul (by omega) hy.2 hy.1 (by omega);omega
theorem zn9:G.shared 121=false:=by decide
theorem e121 (n:Nat) (s:Span) (y:Int) (h:Habit) (hs:okSp s) (hh:zbk h=true) (hy:0<=y/\y<=4000):zK G (n+1) 121 [.agg s.cells,.int .i64 y,.ptr false h.cells 0]=some (.agg (upH h 0 y s).cells):=by
 refine zy (zx _) rfl g121 rfl ?_
 have h9:=zdo hh hy;have h1:IntKind.i64.wrap (h.sink*y)=h.sink*y:=wrap64 (by omega) (by omega);have h2:IntKind.i64.wrap (s.lo - h.sink*y)=s.lo - h.sink*y:=by unfold okSp at hs;exact wrap64 (by omega) (by omega)
 (repeat' first|simp [*,ze,c121,upH]|(apply zb<;>intro _ h<;>try simp [-Nat.le_zero_eq] at h))
@[simp] theorem d121 (n:Nat) (H:Heap) (s_lo:Int) (s_hi:Int) (y:Int) (h_step:Int) (h_place:Int) (h_sink:Int) (hs:(fun (s:Span)=>okSp s) (⟨s_lo,s_hi⟩:Span)) (hh:(fun (h:Habit)=>zbk h=true) (⟨h_step,h_place,h_sink⟩:Habit)) (hy:0<=y/\y<=4000):zu (zg G (n+1)) H (.pure (.func 121 [.ptr false [.int .i64 h_step,.int .i64 h_place,.int .i64 h_sink] 0])) [.pure (.agg [.int .i64 s_lo,.int .i64 s_hi]),.pure (.int .i64 y)]=some (.val (.pure ((fun (s:Span)=>(fun (h:Habit)=>.agg (upH h 0 y s).cells) (⟨h_step,h_place,h_sink⟩:Habit)) (⟨s_lo,s_hi⟩:Span)))) :=
 zi (ps:=[_,_]) (caps:=[_]) zn9 (e121 n (⟨s_lo,s_hi⟩:Span) y (⟨h_step,h_place,h_sink⟩:Habit) hs hh hy)
theorem znV:G.shared 122=false:=by decide
theorem e122 (n:Nat) (s:Span) (y:Int) (h:Habit) (hs:okSp s) (hh:zbk h=true) (hy:0<=y/\y<=4000):zK G (n+1) 122 [.agg s.cells,.int .i64 y,.ptr false h.cells 0]=some (.agg (zcE h 0 y s).cells):=by
 refine zy (zx _) rfl g122 rfl ?_
 have h9:=zdo hh hy;have h1:IntKind.i64.wrap (h.sink*y)=h.sink*y:=wrap64 (by omega) (by omega);have h2:IntKind.i64.wrap (s.hi+h.sink*y)=s.hi+h.sink*y:=by unfold okSp at hs;exact wrap64 (by omega) (by omega)
 (repeat' first|simp [*,ze,c122,zcE]|(apply zb<;>intro _ h<;>try simp [-Nat.le_zero_eq] at h))
@[simp] theorem d122 (n:Nat) (H:Heap) (s_lo:Int) (s_hi:Int) (y:Int) (h_step:Int) (h_place:Int) (h_sink:Int) (hs:(fun (s:Span)=>okSp s) (⟨s_lo,s_hi⟩:Span)) (hh:(fun (h:Habit)=>zbk h=true) (⟨h_step,h_place,h_sink⟩:Habit)) (hy:0<=y/\y<=4000):zu (zg G (n+1)) H (.pure (.func 122 [.ptr false [.int .i64 h_step,.int .i64 h_place,.int .i64 h_sink] 0])) [.pure (.agg [.int .i64 s_lo,.int .i64 s_hi]),.pure (.int .i64 y)]=some (.val (.pure ((fun (s:Span)=>(fun (h:Habit)=>.agg (zcE h 0 y s).cells) (⟨h_step,h_place,h_sink⟩:Habit)) (⟨s_lo,s_hi⟩:Span)))) :=
 zi (ps:=[_,_]) (caps:=[_]) znV (e122 n (⟨s_lo,s_hi⟩:Span) y (⟨h_step,h_place,h_sink⟩:Habit) hs hh hy)
theorem sh91:G.shared 91=false:=by decide
theorem e91 (n:Nat) (h:Habit) (k:Int):zK G (n+1) 91 [.agg h.cells,.int .i64 k]=some (.agg [upF h k,zcZ h k]):=by
 refine zy (zx _) rfl g91 rfl ?_
 (repeat' first|simp [*,ze,c91,upF,zcZ,hPtr]|(apply zb<;>intro _ h<;>try simp [-Nat.le_zero_eq] at h))
@[simp] theorem d91 (n:Nat) (H:Heap) (h_step:Int) (h_place:Int) (h_sink:Int) (k:Int):zu (zg G (n+1)) H (.pure (.func 91 [])) [.pure (.agg [.int .i64 h_step,.int .i64 h_place,.int .i64 h_sink]),.pure (.int .i64 k)]=some (.val (.pure ((fun (h:Habit)=>.agg [upF h k,zcZ h k]) (⟨h_step,h_place,h_sink⟩:Habit)))) :=
 zi (ps:=[_,_]) (caps:=[]) sh91 (e91 n (⟨h_step,h_place,h_sink⟩:Habit) k)
theorem sh90:G.shared 90=false:=by decide
theorem e90 (n:Nat) (l:Life) (c:Sl Int) (k:Nat) (hk:k < c.xs.length):zK G (n+2) 90 [.int .i64 (k:Nat),.ptr false l.cells 0,.ptr false [c.pv intF 1] 0]=some (.agg [upF l.habit c.xs[k]!,zcZ l.habit c.xs[k]!]):=by
 refine zy (zx _) rfl g90 rfl ?_
 rw [getElem!_pos c.xs k hk];(repeat' first|simp [*,ze,c90]|(apply zb<;>intro _ h<;>try simp [-Nat.le_zero_eq] at h))
@[simp] theorem d90 (n:Nat) (H:Heap) (l_habit_step:Int) (l_habit_place:Int) (l_habit_sink:Int) (l_sights:Sl Sight) (l_notes:Sl Note) (c:Sl Int) (k:Nat) (hk:k < c.xs.length):zu (zg G (n+2)) H (.pure (.func 90 [.ptr false [.int .i64 l_habit_step,.int .i64 l_habit_place,.int .i64 l_habit_sink,(l_sights).pv Sight.cells 9,(l_notes).pv Note.cells 4] 0,.ptr false [c.pv intF 1] 0])) [.pure (.int .i64 (k:Nat))]=some (.val (.pure ((fun (l:Life)=>.agg [upF l.habit c.xs[k]!,zcZ l.habit c.xs[k]!]) (⟨⟨l_habit_step,l_habit_place,l_habit_sink⟩,l_sights,l_notes⟩:Life)))) :=
 zi (ps:=[_]) (caps:=[_,_]) sh90 (e90 n (⟨⟨l_habit_step,l_habit_place,l_habit_sink⟩,l_sights,l_notes⟩:Life) c k hk)
def zde (s:Span):Prop:=s.lo<=1048576/\-1048576<=s.hi
theorem zf8 {a b:Span} (ha:okSp a) (hb:zde b):okSp (zaA a b):=by
 unfold okSp zde zaA at *;simp only;omega
def zdj (on:Nat->Span->Span) (k:Nat) (p:Option Span) (s:Span):Span:=match p with
 | none=>s
 | some q=>zaA s (on (k-1) q)
def fwdS (on:Nat->Span->Span):Nat->Option Span->List Span->Option (List Span)
 | _,_,[]=>some []
 | k,p,s::r=>if (zdj on k p s).hi < (zdj on k p s).lo then none else (fwdS on (k+1) (some (zdj on k p s)) r).map (zdj on k p s :: ·)
def bwdS (back:Nat->Span->Span):Nat->List Span->List Span
 | _,[]=>[]
 | k,s::r=>match bwdS back (k+1) r with
  | []=>[s]
  | t::r'=>zaA s (back k t)::t::r'
def zcA:Option (List Span)->PV
 | none=>.tup [.nils,.bool false]
 | some l=>.tup [(Sl.of l).pv Span.cells 2,.bool true]
def zaw (on back:Nat->Span->Span) (l:List Span):Option (List Span):=(fwdS on 0 none l).map (bwdS back 0)
theorem zgl {on:Nat->Span->Span} {k:Nat} {p:Option Span} {l:List Span} (hk:k < l.length) {t:Span} (ht:t=zdj on k p l[k]) :
  fwdS on k p (l.drop k)=if t.hi < t.lo then none else (fwdS on (k+1) (some t) (l.drop (k+1))).map (t :: ·):=by
 rw [List.drop_eq_getElem_cons hk,fwdS,<- ht]
theorem zah (back:Nat->Span->Span):∀ (l:List Span) (k:Nat),(bwdS back k l).length=l.length
 | [],k=>rfl
 | s::r,k=>by
  have:=zah back r (k+1);rw [bwdS]
  cases h:bwdS back (k+1) r with
  | nil=>rw [h] at this;simp at this;simp [<- this]
  | cons t r'=>rw [h] at this;simp at this ⊢;exact this
theorem zgh {back:Nat->Span->Span} {l:List Span} {j:Nat} (hj:j+1 < l.length) :
  bwdS back j (l.drop j)=zaA l[j] (back j ((bwdS back (j+1) (l.drop (j+1)))[0]'(by rw [zah];simp;omega)))::bwdS back (j+1) (l.drop (j+1)):=by
 rw [List.drop_eq_getElem_cons (by omega),bwdS];have hlen:=zah back (l.drop (j+1)) (j+1);obtain ⟨t,r',h⟩:∃ t r',bwdS back (j+1) (l.drop (j+1))=t::r':=by
  cases h:bwdS back (j+1) (l.drop (j+1)) with
  | nil=>rw [h] at hlen;simp at hlen;omega
  | cons t r'=>exact ⟨t,r',rfl⟩
 simp [h]
theorem zgv {back:Nat->Span->Span} {l:List Span} {j:Nat} (hj:j+1=l.length):bwdS back j (l.drop j)=l.drop j:=by
 rw [List.drop_eq_getElem_cons (by omega),List.drop_eq_nil_of_le (by omega)];rfl
theorem zkH {on:Nat->Span->Span} {out l:List Span} {t:Span} (hk:out.length < l.length) (ht:t=zdj on out.length out.getLast? l[out.length])
  (hn:fwdS on 0 none l=(fwdS on out.length out.getLast? (l.drop out.length)).map (out ++ ·)) :
  (t.hi < t.lo->fwdS on 0 none l=none)/\(¬ t.hi < t.lo->fwdS on 0 none l=(fwdS on (out++[t]).length (out++[t]).getLast? (l.drop (out++[t]).length)).map ((out++[t]) ++ ·)):=by
 rw [zgl hk ht] at hn
 constructor
 ·intro h;rw [hn,if_pos h];rfl
 ·intro h;rw [hn,if_neg h];simp [Function.comp_def]
theorem zkI {back:Nat->Span->Span} (hw:∀ k t,okSp t->zde (back k t)):∀ (l:List Span) (k:Nat),(∀ s∈l,okSp s)->∀ s∈bwdS back k l,okSp s
 | [],k,_=>by simp [bwdS]
 | a::r,k,h=>by
  have ih:=zkI hw r (k+1) (fun s hs=>h s (by simp [hs]));rw [bwdS]
  cases hb:bwdS back (k+1) r with
  | nil=>intro s hs;simp at hs;subst hs;exact h _ (by simp)
  | cons t r' =>
   rw [hb] at ih;intro s hs;rcases List.mem_cons.1 hs with rfl|hs
   ·exact zf8 (h a (by simp)) (hw _ _ (ih t (by simp)))
   ·exact ih s hs
theorem zdy (n:Nat) (l:Life) (of gap:PV) (ofF:Sight->Span) (on back:Nat->Span->Span) (g1 g2:Nat->PV) (yr:Nat->Int)
  (h1:1<=l.sights.xs.length) (h9:l.sights.xs.length<=9)
  (hofs:∀ s∈l.sights.xs,okSp (ofF s))
  (hw1:∀ k t,okSp t->zde (on k t)) (hw2:∀ k t,okSp t->zde (back k t))
  (hyr:∀ k (h:k+1 < l.sights.xs.length),IntKind.i64.wrap (l.sights.xs[k+1].year - l.sights.xs[k].year)=yr k)
  (hof:∀ H s,zu (zg G (n+5)) H (.pure of) [.pure (.agg (Sight.cells s))]=some (.val (.pure (.agg (ofF s).cells))))
  (hgap:∀ H (k:Nat),k+1 < l.sights.xs.length->zu (zg G (n+5)) H (.pure gap) [.pure (.int .i64 k)]=some (.val (.pure (.agg [g1 k,g2 k]))))
  (hon:∀ H (k:Nat) s,k+1 < l.sights.xs.length->okSp s->zu (zg G (n+5)) H (.pure (g1 k)) [.pure (.agg (Span.cells s)),.pure (.int .i64 (yr k))]=some (.val (.pure (.agg (on k s).cells))))
  (hbk:∀ H (k:Nat) s,k+1 < l.sights.xs.length->okSp s->zu (zg G (n+5)) H (.pure (g2 k)) [.pure (.agg (Span.cells s)),.pure (.int .i64 (yr k))]=some (.val (.pure (.agg (back k s).cells)))) 
  (hc1:∀ k,AV.cells (.pure (g1 k))=[.pure (g1 k)]) (hc2:∀ k,AV.cells (.pure (g2 k))=[.pure (g2 k)]) :
  zK G (n+6) 86 [.agg l.cells,l.sights.pv Sight.cells 9,of,gap]=some (zcA (zaw on back (l.sights.xs.map ofF))):=by
 have hon':∀ H (k:Nat) lo hi,k+1 < l.sights.xs.length->okSp ⟨lo,hi⟩->zu (zg G (n+5)) H (.pure (g1 k)) [.pure (.agg [.int .i64 lo,.int .i64 hi]),.pure (.int .i64 (yr k))]=some (.val (.pure (.agg [.int .i64 (on k ⟨lo,hi⟩).lo,.int .i64 (on k ⟨lo,hi⟩).hi]))):=fun H k lo hi h h'=>hon H k ⟨lo,hi⟩ h h';have hbk':∀ H (k:Nat) lo hi,k+1 < l.sights.xs.length->okSp ⟨lo,hi⟩->zu (zg G (n+5)) H (.pure (g2 k)) [.pure (.agg [.int .i64 lo,.int .i64 hi]),.pure (.int .i64 (yr k))]=some (.val (.pure (.agg [.int .i64 (back k ⟨lo,hi⟩).lo,.int .i64 (back k ⟨lo,hi⟩).hi]))):=fun H k lo hi h h'=>hbk H k ⟨lo,hi⟩ h h';have hof':∀ H (a b c d e f:Int) (g:List UInt8) (i j:Int),zu (zg G (n+5)) H (.pure of) [.pure (.agg [.int .i64 a,.int .i64 b,.int .i64 c,.int .i64 d,.int .i64 e,.int .i64 f,.str ⟨g.toArray⟩,.int .i64 i,.int .i64 j])]=some (.val (.pure (.agg [.int .i64 (ofF ⟨a,b,⟨⟨c,d⟩,⟨e,f⟩⟩,g,⟨i,j⟩⟩).lo,.int .i64 (ofF ⟨a,b,⟨⟨c,d⟩,⟨e,f⟩⟩,g,⟨i,j⟩⟩).hi]))):=fun H a b c d e f g i j=>hof H ⟨a,b,⟨⟨c,d⟩,⟨e,f⟩⟩,g,⟨i,j⟩⟩;clear hon hbk hof
 refine zy (zx _) rfl g86 rfl ?_
 have hP:Hide (zcA (zaw on back (l.sights.xs.map ofF))=zcA ((fwdS on 0 none (l.sights.xs.map ofF)).map (bwdS back 0))):=⟨rfl⟩
 generalize zcA (zaw on back (l.sights.xs.map ofF))=P at *;(repeat' first|simp [*,ze,c86]|(apply zb<;>intro _ h<;>try simp [-Nat.le_zero_eq] at h)|(show wpE 0 (zl ..) ..;refine zz ?_)|(refine zk fun v2 H2 hv2 hnx2 hget2 hnew2 hone2 hcel2=>?_))
 refine zU [(8,13),(17,60)] (fun (out:List Span) env H=>env 17=.pure (.int .i64 out.length)/\out.length<=l.sights.xs.length/\GrowV Span.cells 2 H (env 10) out/\(∀ s∈out,okSp s) /\
   Hide (fwdS on 0 none (l.sights.xs.map ofF)=(fwdS on out.length out.getLast? ((l.sights.xs.map ofF).drop out.length)).map (out ++ ·))) (fun out=>l.sights.xs.length - out.length) [] ?_ ?_ ?_ ?_
 ·decide
 ·simp [GrowV.nil]
 ·simp only [zN];simp;omega
 rintro out env H ⟨h17,hi,hg,hok,hn⟩;have hfit:out.length < 9223372036854775807:=by omega
 have ha:∀ k i,i < out.length->zcx 2 (env 10) (.pure (.int k (i:Nat)))=some (.val (.box (idOf (env 10)) (i*2))):=fun k i h=>hg.1.addr h;have hob:0 < out.length->H.get (idOf (env 10))=.cells true (zn Span.cells out):=fun h=>hg.1.objI h;have hlt:0 < out.length->idOf (env 10) < H.nx:=fun h=>hg.1.ltI h;have hlt2:0 < out.length->idOf (env 10) < H.nx+1:=fun h=>by have:=hlt h;omega
 have hne1:0 < out.length->¬ (idOf (env 10)=H.nx):=fun h=>by have:=hlt h;omega
 have hne2:0 < out.length->¬ (idOf (env 10)=H.nx+1):=fun h=>by have:=hlt h;omega
 have hl1:0 < out.length->out.length - 1 < out.length:=fun h=>by omega
 have hl2:0 < out.length->out.length - 1 < l.sights.xs.length:=fun h=>by omega
 have hl3:0 < out.length->out.length < l.sights.xs.length->out.length - 1+1 < l.sights.xs.length:=fun h h'=>by omega
 have hok1:∀ h:0 < out.length,okSp (out[out.length - 1]'(by omega)):=fun h=>hok _ (List.getElem_mem _);have hyi:∀ (h:0 < out.length) (h':out.length < l.sights.xs.length),IntKind.i64.wrap (l.sights.xs[out.length].year - (l.sights.xs[out.length - 1]'(by omega)).year)=yr (out.length - 1):=fun h h'=>by
  have:=hyr (out.length - 1) (by omega);have h9:out.length - 1+1=out.length:=by omega
  simp only [h9] at this;exact this
 have hlen2:(zn Span.cells out).length=out.length*2:=zR (f:=Span.cells) (sz:=2) (fun _=>rfl) out;have hfr:=hg.1.fresh;have go0:∀ (h:out.length<=0) (h':out.length < l.sights.xs.length),Hide (((ofF l.sights.xs[out.length]).hi < (ofF l.sights.xs[out.length]).lo->fwdS on 0 none (l.sights.xs.map ofF)=none)/\(¬ (ofF l.sights.xs[out.length]).hi < (ofF l.sights.xs[out.length]).lo->fwdS on 0 none (l.sights.xs.map ofF)=(fwdS on (out++[ofF l.sights.xs[out.length]]).length (out++[ofF l.sights.xs[out.length]]).getLast? ((l.sights.xs.map ofF).drop (out++[ofF l.sights.xs[out.length]]).length)).map ((out++[ofF l.sights.xs[out.length]]) ++ ·))):=fun h h'=>by
  have:out=[]:=List.eq_nil_of_length_eq_zero (by omega)
  refine ⟨zkH (by simpa using h') ?_ hn.h⟩
  subst this;simp [zdj]
 have go1:∀ (h:0 < out.length) (h':out.length < l.sights.xs.length) (t:Span),t=zaA (ofF l.sights.xs[out.length]) (on (out.length - 1) (out[out.length - 1]'(by omega)))->Hide ((t.hi < t.lo->fwdS on 0 none (l.sights.xs.map ofF)=none)/\(¬ t.hi < t.lo->fwdS on 0 none (l.sights.xs.map ofF)=(fwdS on (out++[t]).length (out++[t]).getLast? ((l.sights.xs.map ofF).drop (out++[t]).length)).map ((out++[t]) ++ ·))):=fun h h' t ht=>by
  refine ⟨zkH (by simpa using h') ?_ hn.h⟩
  rw [List.getLast?_eq_getElem?,List.getElem?_eq_getElem (by omega)]
  simpa [zdj] using ht
 (repeat' first|simp [*,ze]|(apply zb<;>intro _ h<;>try simp [-Nat.le_zero_eq] at h)|(show wpE 0 (zl ..) ..;refine zz ?_)|(refine zk fun v2 H2 hv2 hnx2 hget2 hnew2 hone2 hcel2=>?_))
 ·have hl:out.length < l.sights.xs.length:=by assumption
  have h0:0 < out.length:=by assumption
  rw [hP.h,(go1 h0 hl _ rfl).h.1 (by assumption)];rfl
 ·have hl:out.length < l.sights.xs.length:=by assumption
  have h0:0 < out.length:=by assumption
  refine ⟨out++[zaA (ofF l.sights.xs[out.length]) (on (out.length - 1) (out[out.length - 1]'(by omega)))],by simp;omega,by simp,by simp;omega,hv2,?_,⟨(go1 h0 hl _ rfl).h.2 (by omega)⟩⟩
  intro s hs;rcases List.mem_append.1 hs with h|h
  ·exact hok s h
  ·simp at h;subst h;exact zf8 (hofs _ (List.getElem_mem _)) (hw1 _ _ (hok1 h0))
 ·have hl:out.length < l.sights.xs.length:=by assumption
  have h0:out.length<=0:=by assumption
  rw [hP.h,(go0 h0 hl).h.1 (by assumption)];rfl
 ·have hl:out.length < l.sights.xs.length:=by assumption
  have h0:out.length<=0:=by assumption
  refine ⟨out++[ofF l.sights.xs[out.length]],by simp;omega,by simp,by simp;omega,hv2,?_,⟨(go0 h0 hl).h.2 (by omega)⟩⟩
  intro s hs;rcases List.mem_append.1 hs with h|h
  ·exact hok s h
  ·simp at h;subst h;exact hofs _ (List.getElem_mem _)
 have hl:out.length=l.sights.xs.length:=by omega
 have hP2:Hide (P=zcA (some (bwdS back 0 out))):=⟨by rw [hP.h,hn.h,List.drop_eq_nil_of_le (by simp;omega)];simp [fwdS]⟩
 clear hP hn go0 go1 hl1 hl2 hl3 hok1 hyi hlt2 hne1 hne2 ha hfr;have hrow:=hob (by omega);have hlt1:=hlt (by omega);clear hob hlt;obtain ⟨id,hid,hget⟩:=hg.1.row (by intro e;rw [e] at hl;simp at hl;omega);have hw2':IntKind.i64.wrap ((l.sights.xs.length:Int) - 2)=(l.sights.xs.length:Int) - 2:=wrap64 (by omega) (by omega);have hlen3:=hg.1.len;clear hg hlen2 hrow hlt1;(repeat' first|simp [*,ze]|(apply zb<;>intro _ h<;>try simp [-Nat.le_zero_eq] at h)|(show wpE 0 (zl ..) ..;refine zz ?_)|(refine zk fun v2 H2 hv2 hnx2 hget2 hnew2 hone2 hcel2=>?_))
 refine zU [(14,14),(64,99)] (fun (j:Nat) env H=>env 14=.pure (.int .i64 ((j:Int) - 1))/\j+1<=l.sights.xs.length/\H.get id=.cells true (zn Span.cells (out.take j++bwdS back j (out.drop j)))) (fun j=>j) (l.sights.xs.length - 1) ?_ ?_ ?_ ?_
 ·decide
 ·have h8:out.take (l.sights.xs.length - 1)++bwdS back (l.sights.xs.length - 1) (out.drop (l.sights.xs.length - 1))=out:=by
   rw [zgv (by omega),List.take_append_drop]
  refine ⟨?_,by omega,by rw [h8];exact hget⟩
  simp;omega
 ·simp only [zN];omega
 rintro j env2 H2 ⟨h14,hj,hget2⟩
 cases j with
 | zero =>
  have h14':env2 14=.pure (.int .i64 (-1)):=by simpa using h14
  clear h14;rw [List.take_zero,List.nil_append,List.drop_zero] at hget2;have hbl:(bwdS back 0 out).length=l.sights.xs.length:=by rw [zah,hl]
  have hown:OwnV Span.cells 2 H2 (.row id 2 0 l.sights.xs.length) (bwdS back 0 out):=.inr ⟨id,by rw [hbl],hget2⟩;have hne:bwdS back 0 out≠[]:=by intro e;rw [e] at hbl;simp at hbl;omega
  obtain ⟨ids,hids⟩:=GrowV.res (n:=9) ⟨hown,fun e=>absurd e hne⟩ (fun _=>rfl);have hP3:P=.tup [(Sl.of (bwdS back 0 out)).pv Span.cells 2,.bool true]:=hP2.h;(repeat' first|simp [*,ze]|(apply zb<;>intro _ h<;>try simp [-Nat.le_zero_eq] at h)|(show wpE 0 (zl ..) ..;refine zz ?_)|(refine zk fun v2 H2 hv2 hnx2 hget2 hnew2 hone2 hcel2=>?_))
 | succ k =>
  have h14':env2 14=.pure (.int .i64 (k:Nat)):=by rw [h14];congr 2;omega
  clear h14;have hB:((bwdS back (k+1) (out.drop (k+1))).length=l.sights.xs.length - (k+1)):=by rw [zah];simp;omega
  have c0:(out.take (k+1)++bwdS back (k+1) (out.drop (k+1))).length=l.sights.xs.length:=by rw [List.length_append,hB,List.length_take];omega
  have c2:∀ h,(out.take (k+1)++bwdS back (k+1) (out.drop (k+1)))[k]'h=out[k]'(by omega):=fun h=>by
   rw [List.getElem_append_left (by simp;omega)];simp
  have c3:∀ h,(out.take (k+1)++bwdS back (k+1) (out.drop (k+1)))[k+1]'h=(bwdS back (k+1) (out.drop (k+1)))[0]'(by omega):=fun h=>by
   rw [List.getElem_append_right (by simp;omega)]
   congr 1
   simp;omega
  have c4:∀ h,okSp ((out.take (k+1)++bwdS back (k+1) (out.drop (k+1)))[k+1]'h):=fun h=>by
   rw [c3];exact zkI hw2 _ _ (fun s hs=>hok s (List.mem_of_mem_drop hs)) _ (List.getElem_mem _)
  have c5:∀ h1 h2,(out.take (k+1)++bwdS back (k+1) (out.drop (k+1))).set k (zaA ((out.take (k+1)++bwdS back (k+1) (out.drop (k+1)))[k]'h1) (back k ((out.take (k+1)++bwdS back (k+1) (out.drop (k+1)))[k+1]'h2)))=out.take k++bwdS back k (out.drop k):=fun h1 h2=>by
   rw [c2,c3,zgh (j:=k) (by omega),List.set_append_left _ _ (by simp;omega),<- zaN (xs:=out) (i:=k) (by omega)];rw [List.set_append_right _ _ (by rw [List.length_take];omega)];simp
   congr 1
   simp [Nat.min_eq_left (show k<=out.length by omega)]<;>omega
  obtain ⟨cur,e1,d0,d4,d5⟩:∃ cur:List Span,H2.get id=.cells true (zn Span.cells cur)/\cur.length=l.sights.xs.length/\(∀ h,okSp (cur[k+1]'h))/\(∀ h1 h2,cur.set k (zaA (cur[k]'h1) (back k (cur[k+1]'h2)))=out.take k++bwdS back k (out.drop k)):=⟨_,hget2,c0,c4,c5⟩
  clear c0 c2 c3 c4 c5 hB hget2;have hk1:k+1 < l.sights.xs.length:=by omega
  have hk0:k < l.sights.xs.length:=by omega
  have hfit2:k < 9223372036854775807:=by omega
  have c6:=d4 (by omega);have hid2:=zJ e1;have hyk:=hyr k hk1;have c5':Hide _:=⟨d5 (by omega) (by omega)⟩
  clear d5 d4;(repeat' first|simp [*,ze]|(apply zb<;>intro _ h<;>try simp [-Nat.le_zero_eq] at h)|(show wpE 0 (zl ..) ..;refine zz ?_)|(refine zk fun v2 H2 hv2 hnx2 hget2 hnew2 hone2 hcel2=>?_));exact ⟨k,by omega,wrap64 (by omega) (by omega),by omega,by rw [c5'.h]⟩
def goL:List UInt8->Nat->List (Int×List UInt8)->Option (List (List UInt8))
 | p,m,[]=>some (List.replicate m p)
 | p,m,(k,t)::r=>if k=2 then (goL t 1 r).map (List.replicate m p ++ ·) else if zaE p t=true then goL (mixL p t) (m+1) r else none
def lets (l:List Sight):List (List UInt8):=l.map (·.letters)
def za2 (l:List Sight) (c:List Int):List (Int×List UInt8):=c.zip (lets l).tail
def zfo (l:List Sight) (c:List Int) (i:Nat):Option (List (List UInt8)):=if h:i < l.length then goL l[i].letters 1 ((za2 l c).drop i) else some []
def zaU (l:List Sight) (c:List Int):Option (List (List UInt8)):=zfo l c 0
def zd3:Option (List (List UInt8))->PV
 | none=>.tup [.nils,.bool false]
 | some l=>.tup [(Sl.of l).pv strF 1,.bool true]
theorem zim {l:List Sight} {c:List Int} {i:Nat} (hc:c.length+1=l.length) (hi:i < c.length):(za2 l c).drop i=(c[i],(l[i+1]'(by omega)).letters)::(za2 l c).drop (i+1):=by
 have hlen:(za2 l c).length=c.length:=by simp [za2,lets];omega
 rw [List.drop_eq_getElem_cons (by omega)]
 congr 1
 simp [za2,lets]
theorem zke {l:List Sight} {c:List Int} {i:Nat} (hc:c.length+1=l.length) (hi:c.length<=i):(za2 l c).drop i=[]:=by
 apply List.drop_eq_nil_of_le;simp [za2,lets];omega
@[simp] theorem zmJ {l:List (List UInt8)} {i:Nat} {x:List UInt8} (h:i < l.length):zbX (.cells true (zn strF l)) 1 i [.pure (.str ⟨x.toArray⟩)]=some (.cells true (zn strF (l.set i x))):=by
 have:=zfJ (f:=strF) (sz:=1) (l:=l) (i:=i) (a:=x) (fun _=>rfl) (fun _=>rfl) (by decide) h;rw [Nat.mul_one] at this;exact this
theorem zko {p q:List UInt8} (h:zaE p q=true):(mixL p q).length<=8:=by
 simp [zaE,patR] at h;have main:∀ (p q:List UInt8),(mixL p q).length<=p.length:=by
  intro p
  induction p with
  | nil=>intro q;simp [mixL]
  | cons a p ih=>intro q;cases q with
   | nil=>simp [mixL]
   | cons b q=>simp [mixL];exact ih q
 have:=main p q;omega
theorem zkK {p:List UInt8} {m:Nat} {k:Int} {t:List UInt8} {r:List (Int×List UInt8)} (hk:¬ k=2) (ha:zaE p t=false):goL p m ((k,t)::r)=none:=by
 rw [goL,if_neg hk,if_neg (by simp [ha])]
theorem sh92:G.shared 92=false:=by decide
theorem e92 (n:Nat) (l:Life) (c:Sl Int) (hc:c.xs.length+1=l.sights.xs.length) (h9:l.sights.xs.length<=9) (hl:∀ s∈l.sights.xs,s.letters.length<=20):zK G (n+4) 92 [.agg l.cells,c.pv intF 1]=some (zd3 (zaU l.sights.xs c.xs)):=by
 refine zy (zx _) rfl g92 rfl ?_
 have hP:Hide (zd3 (zaU l.sights.xs c.xs)=zd3 (zfo l.sights.xs c.xs 0)):=⟨rfl⟩
 generalize zd3 (zaU l.sights.xs c.xs)=P at *;(repeat' first|simp [*,ze,c92]|(apply zb<;>intro _ h<;>try simp [-Nat.le_zero_eq] at h)|(show wpE 0 (zl ..) ..;refine zz ?_)|(refine zk fun v2 H2 hv2 hnx2 hget2 hnew2 hone2 hcel2=>?_))
 refine zU [(4,13),(17,62)] (fun (s:Nat×List (List UInt8)×List UInt8) env H=>env 17=.pure (.int .i64 s.1)/\s.1<=l.sights.xs.length/\env 7=.pure (.int .i64 s.2.1.length) /\
   ((s.1=0/\s.2.1=[]/\env 6=.pure .nils)\/(s.2.1.length < s.1/\GrowV strF 1 H (env 6) (s.2.1++List.replicate (s.1 - s.2.1.length) s.2.2) /\
    Hide (zfo l.sights.xs c.xs 0=(goL s.2.2 (s.1 - s.2.1.length) ((za2 l.sights.xs c.xs).drop (s.1 - 1))).map (s.2.1 ++ ·))))/\s.2.2.length<=20) (fun s=>l.sights.xs.length - s.1) (0,[],[]) ?_ ?_ ?_ ?_
 ·decide
 ·simp
 ·simp only [zN];omega
 rintro ⟨i,done,p⟩ env H ⟨h17,hi,h7,hor,hp20⟩;simp only at h17 hi h7 hor hp20;have hfit:i < 9223372036854775807:=by omega
 rcases hor with ⟨hi0,hd,h6⟩|⟨hd,hg,hn⟩
 ·subst hi0 hd;have hg:GrowV strF 1 H (env 6) ([]:List (List UInt8)):=by rw [h6];exact GrowV.nil
  have h0:0 < l.sights.xs.length:=by omega
  have ha0:zcx 9 (.pure (l.sights.pv Sight.cells 9)) (.pure (.int .i64 0))=some (.val (.pure (.ptr l.sights.hot (l.sights.xs[0]).cells 0))):=zak (n:=0) h0;clear h6;(repeat' first|simp [*,ze]|(apply zb<;>intro _ h<;>try simp [-Nat.le_zero_eq] at h)|(show wpE 0 (zl ..) ..;refine zz ?_)|(refine zk fun v2 H2 hv2 hnx2 hget2 hnew2 hone2 hcel2=>?_))
  refine zU [(13,13),(53,61)] (fun (j:Nat) env3 H3=>j=0/\env3 13=.pure (.int .i64 0)/\H3=H2) (fun j=>0) 0 ?_ ?_ ?_ ?_
  ·decide
  ·simp
  ·simp only [zN];omega
  rintro j env3 H3 ⟨rfl,h13,rfl⟩;(repeat' first|simp [*,ze]|(apply zb<;>intro _ h<;>try simp [-Nat.le_zero_eq] at h)|(show wpE 0 (zl ..) ..;refine zz ?_)|(refine zk fun v2 H2 hv2 hnx2 hget2 hnew2 hone2 hcel2=>?_))
  refine ⟨1,by omega,rfl,by omega,[],rfl,l.sights.xs[0].letters,⟨.inr ⟨by simp,by simpa using hv2,⟨?_⟩⟩,hl _ (List.getElem_mem _)⟩⟩
  rw [zfo,dif_pos h0];simp
 obtain ⟨O,hO⟩:∃ O,O=done++List.replicate (i - done.length) p:=⟨_,rfl⟩
 rw [<- hO] at hg;have hOl:Hide (O.length=i):=⟨by rw [hO];simp;omega⟩
 have hOh:Hide (O=done++List.replicate (i - done.length) p):=⟨hO⟩
 clear hO;have hi0:0 < i:=by omega
 have ha:∀ k j,j < i->zcx 1 (env 6) (.pure (.int k (j:Nat)))=some (.val (.box (idOf (env 6)) j)):=fun k j h=>by
  have:=hg.1.addr (k:=k) (i:=j) (by have:=hOl.h;omega);rw [Nat.mul_one] at this;exact this
 have hob:=hg.1.objI (by have:=hOl.h;omega);have hlt:=hg.1.ltI (by have:=hOl.h;omega);have hlt2:idOf (env 6) < H.nx+1:=by omega
 have hne1:¬ (idOf (env 6)=H.nx):=by omega
 have hlast:∀ h,O[i - 1]'h=p:=fun h=>by
  have:=hOh.h;subst this;rw [List.getElem_append_right (by omega),List.getElem_replicate]
 have hld:zb7 (.cells true (zn strF O)) 1 (i - 1)=some [.pure (.str ⟨p.toArray⟩)]:=by
  rw [zen (fun _=>rfl) (by have:=hOl.h;omega),hlast];rfl
 have hfr:=hg.1.fresh;have hi1:i - 1 < i:=by omega
 have hi2:i < l.sights.xs.length->i - 1 < c.xs.length:=fun h=>by omega
 have hbs:∀ t,zbt p t=.tup [strP (if zaE p t=true then mixL p t else []),.bool (zaE p t)]:=fun t=>zjb p t;have gd':Hide (∀ h:i < l.sights.xs.length,(za2 l.sights.xs c.xs).drop (i - 1)=(c.xs[i - 1]'(by omega),l.sights.xs[i].letters)::(za2 l.sights.xs c.xs).drop i):=⟨fun h=>by
  have:=zim (c:=c.xs) hc (i:=i - 1) (by omega);have h9:i - 1+1=i:=by omega
  simp only [h9] at this;exact this⟩
 have hO2:O.length<=9:=by have:=hOl.h;omega
 obtain ⟨ids,hids⟩:=hg.res (n:=9) (fun _=>rfl);clear hlast;(repeat' first|simp [*,ze,strP]|(apply zb<;>intro _ h<;>try simp [-Nat.le_zero_eq] at h)|(show wpE 0 (zl ..) ..;refine zz ?_)|(refine zk fun v2 H2 hv2 hnx2 hget2 hnew2 hone2 hcel2=>?_))
 ·-- a new stone
  have hml:i < l.sights.xs.length:=by assumption
  have hk:c.xs[i - 1]'(hi2 hml)=2:=by assumption
  have hg2:=hv2;have hnx9:=hv2.1.row (by simp);clear hv2 hld hob ha hlt hlt2 hids
  refine zU [(13,13),(53,61)] (fun (j:Nat) env3 H3=>j=0/\env3 13=.pure (.int .i64 i)/\H3=H2) (fun j=>0) 0 ?_ ?_ ?_ ?_
  ·decide
  ·simp
  ·simp only [zN];omega
  rintro j env3 H3 ⟨rfl,h13,rfl⟩;(repeat' first|simp [*,ze]|(apply zb<;>intro _ h<;>try simp [-Nat.le_zero_eq] at h)|(show wpE 0 (zl ..) ..;refine zz ?_)|(refine zk fun v2 H2 hv2 hnx2 hget2 hnew2 hone2 hcel2=>?_))
  refine ⟨i+1,by omega,by simp,by omega,O,by rw [hOl.h],l.sights.xs[i].letters,⟨.inr ⟨by rw [hOl.h];omega,hg2.cast ?_,⟨?_⟩⟩,hl _ (List.getElem_mem _)⟩⟩
  ·have h8:i+1 - O.length=1:=by rw [hOl.h];omega
   rw [h8];rfl
  ·have h8:i+1 - O.length=1:=by rw [hOl.h];omega
   rw [hn.h,gd'.h hml,goL,if_pos hk,h8,Option.map_map];simp [Function.comp_def,hOh.h]
 ·have hml:i < l.sights.xs.length:=by assumption
  have hk:¬ c.xs[i - 1]'(hi2 hml)=2:=by assumption
  have hag:zaE p l.sights.xs[i].letters=true:=by assumption
  obtain ⟨id2,hid2,hget2'⟩:=hv2.1.row (by simp);have hol:=hOl.h;have hl2:(O++[mixL p l.sights.xs[i].letters]).length=i+1:=by simp [hol]
  have hmx:=zko hag;clear hv2 hld hob ha hlt hlt2 hids
  refine zU [(13,13),(53,61)] (fun (j:Nat) env3 H3=>env3 13=.pure (.int .i64 j)/\done.length<=j/\j<=i/\H3.get id2=.cells true (zn strF (done++List.replicate (j - done.length) (mixL p l.sights.xs[i].letters)++(O++[mixL p l.sights.xs[i].letters]).drop j))) (fun j=>i - j) done.length ?_ ?_ ?_ ?_
  ·decide
  ·refine ⟨by simp [*],by omega,by omega,?_⟩
   rw [hget2']
   congr 2
   have h8:=hOh.h;simp;rw [h8];simp
  ·simp only [zN];omega
  rintro j env3 H3 ⟨h13,hj0,hj,hg3⟩;have hfit3:j < 9223372036854775807:=by omega
  have hXl:(done++List.replicate (j - done.length) (mixL p l.sights.xs[i].letters)++(O++[mixL p l.sights.xs[i].letters]).drop j).length=i+1:=by
   rw [List.length_append,List.length_append,List.length_replicate,List.length_drop,hl2];omega
  have hXs:j < i->(done++List.replicate (j - done.length) (mixL p l.sights.xs[i].letters)++(O++[mixL p l.sights.xs[i].letters]).drop j).set j (mixL p l.sights.xs[i].letters)=done++List.replicate (j+1 - done.length) (mixL p l.sights.xs[i].letters)++(O++[mixL p l.sights.xs[i].letters]).drop (j+1):=fun h=>by
   have h8:j+1 - done.length=(j - done.length)+1:=by omega
   have h7:(done++List.replicate (j - done.length) (mixL p l.sights.xs[i].letters)).length=j:=by simp;omega
   rw [List.set_append_right _ _ (by omega),h7,Nat.sub_self,List.drop_eq_getElem_cons (by omega),List.set_cons_zero,h8,List.replicate_succ'];simp
  have hXe:j=i->done++List.replicate (j - done.length) (mixL p l.sights.xs[i].letters)++(O++[mixL p l.sights.xs[i].letters]).drop j=done++List.replicate (i+1 - done.length) (mixL p l.sights.xs[i].letters):=fun h=>by
   subst h;have h8:j+1 - done.length=(j - done.length)+1:=by omega
   rw [h8,List.replicate_succ',List.drop_left' hol,List.append_assoc]
  have hXs':Hide _:=⟨hXs⟩
  have hXe':Hide _:=⟨hXe⟩
  clear hXs hXe;obtain ⟨X,hX⟩:∃ X,X=done++List.replicate (j - done.length) (mixL p l.sights.xs[i].letters)++(O++[mixL p l.sights.xs[i].letters]).drop j:=⟨_,rfl⟩
  rw [<- hX] at hg3 hXl hXs' hXe';clear hX;have hid3:=zJ hg3;have hX2:j < i->j < i+1:=fun h=>by omega
  subst hid2;(repeat' first|simp [*,ze]|(apply zb<;>intro _ h<;>try simp [-Nat.le_zero_eq] at h)|(show wpE 0 (zl ..) ..;refine zz ?_)|(refine zk fun v2 H2 hv2 hnx2 hget2 hnew2 hone2 hcel2=>?_))
  ·exact ⟨j+1,by omega,by simp,by omega,by omega,by rw [hXs'.h (by assumption),List.append_assoc]⟩
  ·have hji:j=i:=by omega
   rw [hXe'.h hji] at hg3 hXl
   refine ⟨i+1,by omega,by simp,by omega,done,rfl,mixL p l.sights.xs[i].letters,⟨⟨by omega,⟨.inr ⟨id2,by rw [hXl],hg3⟩,fun e=>by rw [e] at hXl;simp at hXl⟩,⟨?_⟩⟩,by omega⟩⟩
   have h8:i+1 - done.length=(i - done.length)+1:=by omega
   rw [hn.h,gd'.h hml,goL,if_neg hk,if_pos hag,h8];simp
 ·have hml:i < l.sights.xs.length:=by assumption
  have hk:¬ c.xs[i - 1]'(hi2 hml)=2:=by assumption
  rw [hP.h,hn.h,gd'.h hml,zkK hk (by assumption)];rfl
 ·have he:i=l.sights.xs.length:=by omega
  rw [hP.h,hn.h,zke hc (by omega),goL];simp [zd3,hOh.h]
@[simp] theorem d92 (n:Nat) (H:Heap) (l_habit_step:Int) (l_habit_place:Int) (l_habit_sink:Int) (l_sights:Sl Sight) (l_notes:Sl Note) (c:Sl Int) (hc:(fun (l:Life)=>c.xs.length+1=l.sights.xs.length) (⟨⟨l_habit_step,l_habit_place,l_habit_sink⟩,l_sights,l_notes⟩:Life)) (h9:(fun (l:Life)=>l.sights.xs.length<=9) (⟨⟨l_habit_step,l_habit_place,l_habit_sink⟩,l_sights,l_notes⟩:Life)) (hl:(fun (l:Life)=>∀ s∈l.sights.xs,s.letters.length<=20) (⟨⟨l_habit_step,l_habit_place,l_habit_sink⟩,l_sights,l_notes⟩:Life)):zu (zg G (n+4)) H (.pure (.func 92 [])) [.pure (.agg [.int .i64 l_habit_step,.int .i64 l_habit_place,.int .i64 l_habit_sink,(l_sights).pv Sight.cells 9,(l_notes).pv Note.cells 4]),.pure (c.pv intF 1)]=some (.val (.pure ((fun (l:Life)=>zd3 (zaU l.sights.xs c.xs)) (⟨⟨l_habit_step,l_habit_place,l_habit_sink⟩,l_sights,l_notes⟩:Life)))) :=
 zi (ps:=[_,_]) (caps:=[]) sh92 (e92 n (⟨⟨l_habit_step,l_habit_place,l_habit_sink⟩,l_sights,l_notes⟩:Life) c hc h9 hl)
structure Told where
 boxes:Sl Box
 heights:Sl Span
 letters:Sl (List UInt8)
 deriving Inhabited
@[simp] def Told.cells (s:Told):List PV:=[(s.boxes).pv Box.cells 4,(s.heights).pv Span.cells 2,(s.letters).pv strF 1]
@[simp] theorem Told.eta (s:Told):(⟨s.boxes,s.heights,s.letters⟩:Told)=s:=rfl
structure Right (l:Life):Prop where
 habit:zbk l.habit=true
 one:1<=l.sights.xs.length
 nine:l.sights.xs.length<=9
 notes:l.notes.xs.length<=20
 sight:∀ s∈l.sights.xs,zcY s=true
 years:∀ i (h:i+1 < l.sights.xs.length),l.sights.xs[i].year < l.sights.xs[i+1].year
 note:∀ m∈l.notes.xs,zcc m=true
 ids:l.ids.Nodup
theorem zes {p:Nat->Bool} {n:Nat}:∀ k,k<=n->(zaG p n k=true↔∀ i,n - k<=i->i < n->p i=true):=by
 intro k
 induction k with
 | zero=>intro _;simp only [zaG,true_iff];intro i h1 h2;omega
 | succ k ih =>
  intro hk;simp only [zaG,Bool.and_eq_true,ih (by omega)]
  constructor
  ·rintro ⟨h1,h2⟩ i h3 h4
   by_cases h5:i=n - (k+1)
   ·rw [h5];exact h1
   ·exact h2 i (by omega) h4
  ·intro h;exact ⟨h _ (Nat.le_refl _) (by omega),fun i h1 h2=>h i (by omega) h2⟩
theorem allL_iff {α:Type} {p:α->Bool}:∀ {l:List α},allL p l=true↔∀ a∈l,p a=true
 | []=>by simp [allL]
 | a::l=>by simp [allL,allL_iff (l:=l)]
theorem zdn (l:Life):zai l=0↔Right l:=by
 unfold zai
 constructor
 ·intro h
  split at h
  ·simp at h
  ·split at h
   ·simp at h
   ·split at h
    ·simp at h
    ·split at h
     ·simp at h
     ·split at h
      ·rename_i h1 h2 h3 h4 h5;have h3':=(zes l.sights.xs.length (Nat.le_refl _)).1 (by simpa using h3)
       refine ⟨by simpa using h1,by omega,by omega,by omega,fun s hs=>?_,fun i hi=>?_,fun m hm=>allL_iff.1 (by simpa using h4) m hm,h5⟩
       ·obtain ⟨i,hi,rfl⟩:=List.getElem_of_mem hs;have:=h3' i (by omega) hi;rw [zaS hi] at this;simp at this;exact this.1
       ·have:=h3' (i+1) (by omega) hi;rw [zaS hi] at this;simp at this;exact this.2
      ·simp at h
 ·intro h;rw [if_neg (by simp [h.habit]),if_neg (by have:=h.one;have:=h.nine;have:=h.notes;omega),if_neg,if_neg,if_pos h.ids]
  ·rw [Bool.not_eq_false,allL_iff];exact h.note
  ·rw [Bool.not_eq_false,zes _ (Nat.le_refl _)];intro i _ hi;rw [zaS hi,h.sight _ (List.getElem_mem hi)]
   cases i with
   | zero=>simp
   | succ i=>simpa using h.years i hi
theorem Right.sp {l:Life} (h:Right l) {s:Sight} (hs:s∈l.sights.xs):okSp s.box.x/\okSp s.box.y/\okSp s.height/\0<=s.height.lo/\s.height.hi<=100/\s.box.x.lo<=s.box.x.hi/\s.box.y.lo<=s.box.y.hi/\s.height.lo<=s.height.hi/\0<=s.year/\s.year<=4000/\s.letters.length<=8:=by
 have:=h.sight s hs;simp [zcY,zeO,zgN,zdN,patR] at this;unfold okSp;omega
theorem Right.yr {l:Life} (h:Right l) {k:Nat} (hk:k+1 < l.sights.xs.length):0<=l.sights.xs[k+1].year - l.sights.xs[k].year/\l.sights.xs[k+1].year - l.sights.xs[k].year<=4000:=by
 have h1:=h.sp (List.getElem_mem (l:=l.sights.xs) (n:=k) (by omega));have h2:=h.sp (List.getElem_mem (l:=l.sights.xs) (n:=k+1) hk);have:=h.years k hk;omega
def yrS (l:List Sight) (k:Nat):Int:=l[k+1]!.year - l[k]!.year
def onX (l:Life) (c:List Int) (k:Nat) (s:Span):Span:=onD (farD l.habit c[k]!) s
def onH (l:Life) (c:List Int) (k:Nat) (s:Span):Span:=if k+1 < l.sights.xs.length then upH l.habit c[k]! (yrS l.sights.xs k) s else s
def zdd (l:Life) (c:List Int) (k:Nat) (s:Span):Span:=if k+1 < l.sights.xs.length then zcE l.habit c[k]! (yrS l.sights.xs k) s else s
def thX (l:Life) (c:List Int):Option (List Span):=zaw (onX l c) (onX l c) (l.sights.xs.map (·.box.x))
def thY (l:Life) (c:List Int):Option (List Span):=zaw (onX l c) (onX l c) (l.sights.xs.map (·.box.y))
def thH (l:Life) (c:List Int):Option (List Span):=zaw (onH l c) (zdd l c) (l.sights.xs.map (·.height))
structure TellR where
 boxes:List Box
 heights:List Span
 letters:List (List UInt8)
def zao (l:Life) (c:List Int):Option TellR:=if allL (fun m=>za3 l.sights.xs m c) l.notes.xs=true then match thX l c,thY l c,thH l c,zaU l.sights.xs c with
 | some x,some y,some h,some t=>some ⟨x.zipWith Box.mk y,h,t⟩
 | _,_,_,_=>none else none
def TellR.told (t:TellR):Told:=⟨Sl.of t.boxes,Sl.of t.heights,Sl.of t.letters⟩
def zaK:Option TellR->PV
 | none=>.tup [.agg [.nils,.nils,.nils],.bool false]
 | some t=>.tup [.agg t.told.cells,.bool true]
theorem zbC {on back:Nat->Span->Span} {l m:List Span} (h:zaw on back l=some m):m.length=l.length:=by
 have main:∀ (l:List Span) (k:Nat) (p:Option Span) (m:List Span),fwdS on k p l=some m->m.length=l.length:=by
  intro l
  induction l with
  | nil=>intro k p m h;simp [fwdS] at h;subst h;rfl
  | cons s r ih =>
   intro k p m h;rw [fwdS] at h
   split at h
   ·simp at h
   ·rw [Option.map_eq_some_iff] at h;obtain ⟨m',h1,rfl⟩:=h;simp [ih _ _ _ h1]
 unfold zaw at h;rw [Option.map_eq_some_iff] at h;obtain ⟨m',h1,rfl⟩:=h;rw [zah,main _ _ _ _ h1]
theorem zc8 {h:Habit} {k:Int} (hh:zbk h=true):0<=farD h k/\farD h k<=1000000:=by
 simp [zbk,inB] at hh;unfold farD
 split
 ·omega
 ·split<;>omega
theorem zdL {l:Life} (hr:Right l) (c:List Int) (k:Nat) (t:Span) (ht:okSp t):zde (onX l c k t):=by
 have:=zc8 (k:=c[k]!) hr.habit;unfold okSp at ht;unfold zde onX onD;simp only;omega
theorem zhL {l:Life} (hr:Right l) (c:List Int) (k:Nat) (t:Span) (ht:okSp t):zde (onH l c k t)/\zde (zdd l c k t):=by
 unfold okSp at ht;unfold onH zdd
 by_cases hk:k+1 < l.sights.xs.length
 ·rw [if_pos hk,if_pos hk];have h1:=hr.yr hk;have h2:yrS l.sights.xs k=l.sights.xs[k+1].year - l.sights.xs[k].year:=by rw [yrS,getElem!_pos _ k (by omega),getElem!_pos _ (k+1) hk]
  have:=zdo hr.habit h1;rw [<- h2] at this;unfold zde upH zcE
  split<;>(simp only;omega)
 ·rw [if_neg hk,if_neg hk];unfold zde;omega
theorem zjY {l:Life} {c:List Int} {x y:List Span} (hx:thX l c=some x) (hy:thY l c=some y):x.length=l.sights.xs.length/\y.length=l.sights.xs.length:=by
 have h1:=zbC hx;have h2:=zbC hy;simp at h1 h2;exact ⟨h1,h2⟩
theorem zkX (n:Nat) (H:Heap) (l:Life) (c:Sl Int) (hr:Right l) (hc:c.xs.length+1=l.sights.xs.length) (hk:∀ k∈c.xs,0<=k/\k<=2) :
  zu (zg G (n+6)) H (.pure (.func 86 [])) [.pure (.agg l.cells),.pure (l.sights.pv Sight.cells 9),.pure (.func 87 []),.pure (.func 84 [.ptr false [c.pv intF 1] 0,.ptr false l.cells 0])]=some (.val (.pure (zcA (thX l c.xs)))):=by
 refine zi (ps:=[_,_,_,_]) (caps:=[]) (by decide) ?_
 refine zdy n l _ _ (·.box.x) (onX l c.xs) (onX l c.xs) (fun k=>.func 159 [.ptr false [.int .i64 (farD l.habit c.xs[k]!)] 0]) (fun k=>.func 159 [.ptr false [.int .i64 (farD l.habit c.xs[k]!)] 0]) (yrS l.sights.xs) hr.one hr.nine (fun s hs=>(hr.sp hs).1) (zdL hr _) (zdL hr _) ?_ ?_ ?_ ?_ ?_ (fun _=>rfl) (fun _=>rfl)
 ·intro k h;have:=hr.yr h;rw [wrap64 (by omega) (by omega),yrS,getElem!_pos _ k (by omega),getElem!_pos _ (k+1) h]
 ·intro H s;exact d87 _ H s.id s.year s.box.x.lo s.box.x.hi s.box.y.lo s.box.y.hi s.letters s.height.lo s.height.hi
 ·intro H k h;have h1:=d84 (n+2) H l.habit.step l.habit.place l.habit.sink l.sights l.notes c k (by omega) (by rw [getElem!_pos c.xs k (by omega)];exact hk _ (List.getElem_mem _));exact h1
 ·intro H k s h hs;exact d159 _ H s.lo s.hi _ _ hs (zc8 hr.habit)
 ·intro H k s h hs;exact d159 _ H s.lo s.hi _ _ hs (zc8 hr.habit)
theorem zlh (n:Nat) (H:Heap) (l:Life) (c:Sl Int) (hr:Right l) (hc:c.xs.length+1=l.sights.xs.length) (hk:∀ k∈c.xs,0<=k/\k<=2) :
  zu (zg G (n+6)) H (.pure (.func 86 [])) [.pure (.agg l.cells),.pure (l.sights.pv Sight.cells 9),.pure (.func 88 []),.pure (.func 84 [.ptr false [c.pv intF 1] 0,.ptr false l.cells 0])]=some (.val (.pure (zcA (thY l c.xs)))):=by
 refine zi (ps:=[_,_,_,_]) (caps:=[]) (by decide) ?_
 refine zdy n l _ _ (·.box.y) (onX l c.xs) (onX l c.xs) (fun k=>.func 159 [.ptr false [.int .i64 (farD l.habit c.xs[k]!)] 0]) (fun k=>.func 159 [.ptr false [.int .i64 (farD l.habit c.xs[k]!)] 0]) (yrS l.sights.xs) hr.one hr.nine (fun s hs=>(hr.sp hs).2.1) (zdL hr _) (zdL hr _) ?_ ?_ ?_ ?_ ?_ (fun _=>rfl) (fun _=>rfl)
 ·intro k h;have:=hr.yr h;rw [wrap64 (by omega) (by omega),yrS,getElem!_pos _ k (by omega),getElem!_pos _ (k+1) h]
 ·intro H s;exact d88 _ H s.id s.year s.box.x.lo s.box.x.hi s.box.y.lo s.box.y.hi s.letters s.height.lo s.height.hi
 ·intro H k h;have h1:=d84 (n+2) H l.habit.step l.habit.place l.habit.sink l.sights l.notes c k (by omega) (by rw [getElem!_pos c.xs k (by omega)];exact hk _ (List.getElem_mem _));exact h1
 ·intro H k s h hs;exact d159 _ H s.lo s.hi _ _ hs (zc8 hr.habit)
 ·intro H k s h hs;exact d159 _ H s.lo s.hi _ _ hs (zc8 hr.habit)
theorem zkt (n:Nat) (H:Heap) (l:Life) (c:Sl Int) (hr:Right l) (hc:c.xs.length+1=l.sights.xs.length) :
  zu (zg G (n+6)) H (.pure (.func 86 [])) [.pure (.agg l.cells),.pure (l.sights.pv Sight.cells 9),.pure (.func 89 []),.pure (.func 90 [.ptr false l.cells 0,.ptr false [c.pv intF 1] 0])]=some (.val (.pure (zcA (thH l c.xs)))):=by
 refine zi (ps:=[_,_,_,_]) (caps:=[]) (by decide) ?_
 refine zdy n l _ _ (·.height) (onH l c.xs) (zdd l c.xs) (fun k=>upF l.habit c.xs[k]!) (fun k=>zcZ l.habit c.xs[k]!) (yrS l.sights.xs) hr.one hr.nine (fun s hs=>(hr.sp hs).2.2.1) (fun k t h=>(zhL hr _ k t h).1) (fun k t h=>(zhL hr _ k t h).2) ?_ ?_ ?_ ?_ ?_ (fun _=>zkp ..) (fun _=>zhH ..)
 ·intro k h;have:=hr.yr h;rw [wrap64 (by omega) (by omega),yrS,getElem!_pos _ k (by omega),getElem!_pos _ (k+1) h]
 ·intro H s;exact d89 _ H s.id s.year s.box.x.lo s.box.x.hi s.box.y.lo s.box.y.hi s.letters s.height.lo s.height.hi
 ·intro H k h;have h1:=d90 (n+3) H l.habit.step l.habit.place l.habit.sink l.sights l.notes c k (by omega);exact h1
 ·intro H k s h hs;have h1:=hr.yr h;have h2:yrS l.sights.xs k=l.sights.xs[k+1].year - l.sights.xs[k].year:=by rw [yrS,getElem!_pos _ k (by omega),getElem!_pos _ (k+1) h]
  rw [<- h2] at h1;simp only [upF,onH,if_pos h]
  by_cases hk0:c.xs[k]! = 0
  ·rw [if_pos hk0,hk0];exact d121 _ H s.lo s.hi _ l.habit.step l.habit.place l.habit.sink hs hr.habit h1
  ·rw [if_neg hk0];have:=d120 (n+4) H s.lo s.hi (yrS l.sights.xs k);rw [show upH l.habit c.xs[k]! (yrS l.sights.xs k) s=⟨0,100⟩ from by rw [upH,if_neg hk0]];exact this
 ·intro H k s h hs;have h1:=hr.yr h;have h2:yrS l.sights.xs k=l.sights.xs[k+1].year - l.sights.xs[k].year:=by rw [yrS,getElem!_pos _ k (by omega),getElem!_pos _ (k+1) h]
  rw [<- h2] at h1;simp only [zcZ,zdd,if_pos h]
  by_cases hk0:c.xs[k]! = 0
  ·rw [if_pos hk0,hk0];exact d122 _ H s.lo s.hi _ l.habit.step l.habit.place l.habit.sink hs hr.habit h1
  ·rw [if_neg hk0];have:=d120 (n+4) H s.lo s.hi (yrS l.sights.xs k);rw [show zcE l.habit c.xs[k]! (yrS l.sights.xs k) s=⟨0,100⟩ from by rw [zcE,if_neg hk0]];exact this
theorem sh48:G.shared 48=false:=by decide
theorem e48 (n:Nat) (l:Life) (c:Sl Int) (hr:Right l) (hc:c.xs.length+1=l.sights.xs.length) (hk:∀ k∈c.xs,0<=k/\k<=2):zK G (n+7) 48 [.agg l.cells,c.pv intF 1]=some (zaK (zao l c.xs)):=by
 refine zy (zx _) rfl g48 rfl ?_
 have h1:=hr.one;have h9:=hr.nine;have h20:=hr.notes;have hl8:∀ s∈l.sights.xs,s.letters.length<=20:=fun s hs=>by have:=hr.sp hs;omega
 have hP:Hide (zaK (zao l c.xs)=zaK (if allL (fun m=>za3 l.sights.xs m c.xs) l.notes.xs=true then match thX l c.xs,thY l c.xs,thH l c.xs,zaU l.sights.xs c.xs with
  | some x,some y,some h,some t=>some ⟨x.zipWith Box.mk y,h,t⟩
  | _,_,_,_=>none else none)):=⟨rfl⟩
 generalize zaK (zao l c.xs)=P at *;have hcx:=fun H=>zkX n H l c hr hc hk;have hcy:=fun H=>zlh n H l c hr hc hk;have hch:=fun H=>zkt n H l c hr hc;have hcl:∀ H,zu (zg G (n+6)) H (.pure (.func 92 [])) [.pure (.agg l.cells),.pure (c.pv intF 1)]=some (.val (.pure (zd3 (zaU l.sights.xs c.xs)))):=fun H=>d92 (n+2) H l.habit.step l.habit.place l.habit.sink l.sights l.notes c hc h9 hl8;simp only [Life.cells] at hcx hcy hch hcl;(repeat' first|simp [*,ze,c48]|(apply zb<;>intro _ h<;>try simp [-Nat.le_zero_eq] at h)|(show wpE 0 (zl ..) ..;refine zz ?_)|(refine zk fun v2 H2 hv2 hnx2 hget2 hnew2 hone2 hcel2=>?_))
 refine zU [(5,5),(7,7),(18,28)] (fun (i:Nat) env H=>env 18=.pure (.int .i64 i)/\i<=l.notes.xs.length/\H.get 0=.cells true [.pure .nils,.pure .nils,.pure .nils]/\Hide (allL (fun m=>za3 l.sights.xs m c.xs) l.notes.xs=allL (fun m=>za3 l.sights.xs m c.xs) (l.notes.xs.drop i))) (fun i=>l.notes.xs.length - i) 0 ?_ ?_ ?_ ?_
 ·decide
 ·simp
 ·simp only [zN];omega
 rintro i env H ⟨h18,hi,hg0,hn⟩;have hfit:i < 9223372036854775807:=by omega
 have hnx:=zJ hg0;have hnx0:¬ (0=H.nx):=by omega
 have hnx1:0 < H.nx+1:=by omega
 have hc2:c.xs.length+1<=l.sights.xs.length:=by omega
 have hl3:l.sights.xs.length < 1000:=by omega
 have hl4:c.xs.length < 1000:=by omega
 (repeat' first|simp [*,ze]|(apply zb<;>intro _ h<;>try simp [-Nat.le_zero_eq] at h)|(show wpE 0 (zl ..) ..;refine zz ?_)|(refine zk fun v2 H2 hv2 hnx2 hget2 hnew2 hone2 hcel2=>?_))
 ·have hlt:i < l.notes.xs.length:=by assumption
  have hf:za3 l.sights.xs l.notes.xs[i] c.xs=true:=by assumption
  exact ⟨i+1,by omega,by simp,by omega,⟨by rw [hn.h,zbU hlt,hf];rfl⟩⟩
 ·-- a note that is not so
  have hlt:i < l.notes.xs.length:=by assumption
  have hf:za3 l.sights.xs l.notes.xs[i] c.xs=false:=by assumption
  rw [hP.h,hn.h,zbU hlt,hf];rfl
 have hA:allL (fun m=>za3 l.sights.xs m c.xs) l.notes.xs=true:=by rw [hn.h,zfD (by omega)]
 have hP2:Hide (P=zaK (match thX l c.xs,thY l c.xs,thH l c.xs,zaU l.sights.xs c.xs with
  | some x,some y,some h,some t=>some ⟨x.zipWith Box.mk y,h,t⟩
  | _,_,_,_=>none)):=⟨by rw [hP.h,if_pos hA]⟩
 clear hP hn hA
 cases hx:thX l c.xs with
 | none =>
  have:P=.tup [.agg [.nils,.nils,.nils],.bool false]:=by rw [hP2.h,hx];rfl
  (repeat' first|simp [*,ze,zcA]|(apply zb<;>intro _ h<;>try simp [-Nat.le_zero_eq] at h)|(show wpE 0 (zl ..) ..;refine zz ?_)|(refine zk fun v2 H2 hv2 hnx2 hget2 hnew2 hone2 hcel2=>?_))
 | some x =>
  cases hy:thY l c.xs with
  | none =>
   have:P=.tup [.agg [.nils,.nils,.nils],.bool false]:=by rw [hP2.h,hx,hy];rfl
   (repeat' first|simp [*,ze,zcA]|(apply zb<;>intro _ h<;>try simp [-Nat.le_zero_eq] at h)|(show wpE 0 (zl ..) ..;refine zz ?_)|(refine zk fun v2 H2 hv2 hnx2 hget2 hnew2 hone2 hcel2=>?_))
  | some y =>
   cases hh:thH l c.xs with
   | none =>
    have:P=.tup [.agg [.nils,.nils,.nils],.bool false]:=by rw [hP2.h,hx,hy,hh];rfl
    (repeat' first|simp [*,ze,zcA]|(apply zb<;>intro _ h<;>try simp [-Nat.le_zero_eq] at h)|(show wpE 0 (zl ..) ..;refine zz ?_)|(refine zk fun v2 H2 hv2 hnx2 hget2 hnew2 hone2 hcel2=>?_))
   | some hs =>
    cases ht:zaU l.sights.xs c.xs with
    | none =>
     have:P=.tup [.agg [.nils,.nils,.nils],.bool false]:=by rw [hP2.h,hx,hy,hh,ht];rfl
     (repeat' first|simp [*,ze,zcA,zd3]|(apply zb<;>intro _ h<;>try simp [-Nat.le_zero_eq] at h)|(show wpE 0 (zl ..) ..;refine zz ?_)|(refine zk fun v2 H2 hv2 hnx2 hget2 hnew2 hone2 hcel2=>?_))
    | some t =>
     have hP3:Hide (P=zaK (some ⟨x.zipWith Box.mk y,hs,t⟩)):=⟨by rw [hP2.h,hx,hy,hh,ht]⟩
     obtain ⟨hxl,hyl⟩:=zjY hx hy;have hhl:hs.length=l.sights.xs.length:=by have:=zbC hh;simpa using this
     (repeat' first|simp [*,ze,zcA,zd3]|(apply zb<;>intro _ h<;>try simp [-Nat.le_zero_eq] at h)|(show wpE 0 (zl ..) ..;refine zz ?_)|(refine zk fun v2 H2 hv2 hnx2 hget2 hnew2 hone2 hcel2=>?_));have hzl:(x.zipWith Box.mk y).length=l.sights.xs.length:=by simp [hxl,hyl]
     refine zU [(14,14),(76,102)] (fun (s:Nat×AV×AV) env2 H2=>env2 76=.pure (.int .i64 s.1)/\s.1<=l.sights.xs.length/\H2.get 0=.cells true [.pure .nils,.pure .nils,.pure .nils] /\
      H2.get H.nx=.cells true [s.2.1,s.2.2,.pure ((Sl.of t).pv strF 1)]/\GrowV Box.cells 4 H2 s.2.1 ((x.zipWith Box.mk y).take s.1)/\GrowV Span.cells 2 H2 s.2.2 (hs.take s.1) /\
      (∀ id,Names s.2.2 id->¬ Names s.2.1 id)/\¬ Names s.2.1 0/\¬ Names s.2.2 0/\¬ Names s.2.1 H.nx/\¬ Names s.2.2 H.nx) (fun s=>l.sights.xs.length - s.1) (0,.pure .nils,.pure .nils) ?_ ?_ ?_ ?_
     ·decide
     ·have hno:∀ id,¬ Names (.pure .nils) id:=fun id ⟨_,_,_,h⟩=>by simp at h
      simp [*,GrowV.nil]
     ·simp only [zN];omega
     rintro ⟨j,va,vb⟩ env2 H2 ⟨h76,hj,hg02,hgB,hva,hvb,hdis,hna0,hnb0,hnaB,hnbB⟩;simp only at h76 hj hgB hva hvb hdis hna0 hnb0 hnaB hnbB;have hfit2:j < 9223372036854775807:=by omega
     have hB2:=zJ hgB;have h02:=zJ hg02;have hB3:¬ (H.nx=H2.nx):=by omega
     have h03:¬ (0=H2.nx):=by omega
     have hB4:H.nx < H2.nx+1:=by omega
     have h04:0 < H2.nx+1:=by omega
     have hfa:=hva.1.fresh;have hfb:=hvb.1.fresh;have hjx:j < l.sights.xs.length->j < x.length:=fun h=>by omega
     have hjy:j < l.sights.xs.length->j < y.length:=fun h=>by omega
     have hjh:j < l.sights.xs.length->j < hs.length:=fun h=>by omega
     have hon1:=hva.1.one;have hon2:=hvb.1.one;clear hcx hcy hch hcl hx hy hh ht hP2;(repeat' first|simp [*,ze]|(apply zb<;>intro _ h<;>try simp [-Nat.le_zero_eq] at h)|(show wpE 0 (zl ..) ..;refine zz ?_)|(refine zk fun v2 H2 hv2 hnx2 hget2 hnew2 hone2 hcel2=>?_))
     ·have hlt:j < l.sights.xs.length:=by assumption
      have hB5:H.nx < H2.nx:=by simp at hnx2;omega
      have h05:0 < H2.nx:=by omega
      obtain ⟨hvb3,hdis3⟩:=After.grow ⟨hnx2,hget2,hnew2⟩ (hvb.alloc _) hdis;have hv3:=hv2;have hnB3:¬ Names v2 H.nx:=fun h=>by have:=hnew2 _ h;simp at this<;>omega
      have hn03:¬ Names v2 0:=fun h=>by have:=hnew2 _ h;simp at this<;>omega
      have hg03:H2.get 0=.cells true [.pure .nils,.pure .nils,.pure .nils]:=by
       rw [hget2 0 (by simp<;>omega) hna0,zA h02];exact hg02
      have hfb3:=hvb3.1.fresh;have hfv3:=hv3.1.fresh;have hB6:¬ (H.nx=H2.nx):=by omega
      have h06:¬ (0=H2.nx):=by omega
      have hB7:H.nx < H2.nx+1:=by omega
      have h07:0 < H2.nx+1:=by omega
      have h0B:¬ (0=H.nx):=by omega
      clear hv2 hget2 hnew2 hnx2 hone2 hva hvb hdis;generalize v2=v3 at *;generalize H2=H3 at *;(repeat' first|simp [*,ze]|(apply zb<;>intro _ h<;>try simp [-Nat.le_zero_eq] at h)|(show wpE 0 (zl ..) ..;refine zz ?_)|(refine zk fun v2 H2 hv2 hnx2 hget2 hnew2 hone2 hcel2=>?_));have hgB3:H2.get H.nx=.cells true [v3,vb,.pure ((Sl.of t).pv strF 1)]:=by
       rw [hget2 H.nx (by simp<;>omega) hnbB,zA (by simp<;>omega),z8 hB5]
      have hg04:H2.get 0=.cells true [.pure .nils,.pure .nils,.pure .nils]:=by
       rw [hget2 0 (by simp<;>omega) hnb0,zA (by simp<;>omega),zt (by omega)];exact hg03
      obtain ⟨hva4,hdis4⟩:=After.grow ⟨hnx2,hget2,hnew2⟩ ((hv3.set hnB3 _).alloc _) (fun id h h'=>hdis3 id h' h);have hnB4:¬ Names v2 H.nx:=fun h=>by have:=hnew2 _ h;simp at this<;>omega
      have hn04:¬ Names v2 0:=fun h=>by have:=hnew2 _ h;simp at this<;>omega
      have hB8:H.nx < H2.nx:=zJ hgB3;have e1:(H2.set H.nx (.cells true [v3,v2,.pure ((Sl.of t).pv strF 1)])).get 0=.cells true [.pure .nils,.pure .nils,.pure .nils]:=by rw [zt (by omega)];exact hg04
      refine ⟨j+1,by omega,by simp,by omega,v3,v2,?_⟩
      refine ⟨z8 hB8,(hva4.set hnB3 _).cast ?_,(hv2.set hnB4 _).cast ?_,fun id h h'=>hdis4 id h' h,hn03,hn04,hnB3,hnB4⟩
      ·rw [<- zaN (by omega)];simp
      ·first|rfl|rw [zaN]
     ·have hje:j=l.sights.xs.length:=by omega
      subst hje;rw [List.take_of_length_le (by omega)] at hva hvb;have fa:FrzK (H2.set 0 (.cells true [va,vb,.pure ((Sl.of t).pv strF 1)])) false 11 (aggV [va,vb,.pure ((Sl.of t).pv strF 1)]) (.agg [(Sl.of (x.zipWith Box.mk y)).pv Box.cells 4,(Sl.of hs).pv Span.cells 2,(Sl.of t).pv strF 1]) :=
       FrzK.aggV (.cons ((hva.set hna0 _).res (fun _=>rfl)) (.cons ((hvb.set hnb0 _).res (fun _=>rfl)) (.cons (.pure _) .nil)))
      obtain ⟨ids,hids⟩:=fa;have hP4:P=.tup [.agg [(Sl.of (x.zipWith Box.mk y)).pv Box.cells 4,(Sl.of hs).pv Span.cells 2,(Sl.of t).pv strF 1],.bool true]:=hP3.h;(repeat' first|simp [*,ze]|(apply zb<;>intro _ h<;>try simp [-Nat.le_zero_eq] at h)|(show wpE 0 (zl ..) ..;refine zz ?_)|(refine zk fun v2 H2 hv2 hnx2 hget2 hnew2 hone2 hcel2=>?_))
@[simp] theorem d48 (n:Nat) (H:Heap) (l_habit_step:Int) (l_habit_place:Int) (l_habit_sink:Int) (l_sights:Sl Sight) (l_notes:Sl Note) (c:Sl Int) (hr:(fun (l:Life)=>Right l) (⟨⟨l_habit_step,l_habit_place,l_habit_sink⟩,l_sights,l_notes⟩:Life)) (hc:(fun (l:Life)=>c.xs.length+1=l.sights.xs.length) (⟨⟨l_habit_step,l_habit_place,l_habit_sink⟩,l_sights,l_notes⟩:Life)) (hk:∀ k∈c.xs,0<=k/\k<=2):zu (zg G (n+7)) H (.pure (.func 48 [])) [.pure (.agg [.int .i64 l_habit_step,.int .i64 l_habit_place,.int .i64 l_habit_sink,(l_sights).pv Sight.cells 9,(l_notes).pv Note.cells 4]),.pure (c.pv intF 1)]=some (.val (.pure ((fun (l:Life)=>zaK (zao l c.xs)) (⟨⟨l_habit_step,l_habit_place,l_habit_sink⟩,l_sights,l_notes⟩:Life)))) :=
 zi (ps:=[_,_]) (caps:=[]) sh48 (e48 n (⟨⟨l_habit_step,l_habit_place,l_habit_sink⟩,l_sights,l_notes⟩:Life) c hr hc hk)
def zb8 (l:Life):Prop:=l.sights.xs.length<=9->l.notes.xs.length<=20->∀ s∈l.sights.xs,s.letters.length<=20
def zW (l:Life) (c:List Int):Int:=if zai l=0 then (if zeg l c=true then 0 else 50) else zai l
theorem zcU {l:Life} {c:List Int} (h:zW l c=0):Right l/\c.length+1=l.sights.xs.length/\∀ k∈c,0<=k/\k<=2:=by
 unfold zW at h
 split at h
 ·rename_i hc;have hr:=(zdn l).1 hc
  split at h
  ·rename_i hk;simp [zeg] at hk
   refine ⟨hr,by have:=hr.one;omega,fun k hm=>?_⟩
   have:=hk.2 k hm;simp [gapB] at this;exact this
  ·simp at h
 ·rename_i hc;exact absurd h hc
theorem sh47:G.shared 47=false:=by decide
theorem e47 (n:Nat) (l:Life) (c:Sl Int) (hs:zb8 l) (hc:c.xs.length < 1000):zK G (n+6) 47 [.agg l.cells,c.pv intF 1]=some (.int .i64 (zW l c.xs)):=by
 refine zy (zx _) rfl g47 rfl ?_
 have hl:zai l=0->l.sights.xs.length < 1000:=fun h=>by have:=((zdn l).1 h).nine;omega
 have hcc:∀ H,zu (zg G (n+5)) H (.pure (.func 29 [])) [.pure (.agg l.cells)]=some (.val (.pure (.int .i64 (zai l)))):=fun H=>d29 n H l.habit.step l.habit.place l.habit.sink l.sights l.notes hs;simp only [Life.cells] at hcc;have hP:Hide (zW l c.xs=if zai l=0 then (if zeg l c.xs=true then 0 else 50) else zai l):=⟨rfl⟩
 generalize zW l c.xs=P at *;(repeat' first|simp [*,ze,c47]|(apply zb<;>intro _ h<;>try simp [-Nat.le_zero_eq] at h))
 all_goals (rw [hP.h];simp [*])
@[simp] theorem d47 (n:Nat) (H:Heap) (l_habit_step:Int) (l_habit_place:Int) (l_habit_sink:Int) (l_sights:Sl Sight) (l_notes:Sl Note) (c:Sl Int) (hs:(fun (l:Life)=>zb8 l) (⟨⟨l_habit_step,l_habit_place,l_habit_sink⟩,l_sights,l_notes⟩:Life)) (hc:c.xs.length < 1000):zu (zg G (n+6)) H (.pure (.func 47 [])) [.pure (.agg [.int .i64 l_habit_step,.int .i64 l_habit_place,.int .i64 l_habit_sink,(l_sights).pv Sight.cells 9,(l_notes).pv Note.cells 4]),.pure (c.pv intF 1)]=some (.val (.pure ((fun (l:Life)=>.int .i64 (zW l c.xs)) (⟨⟨l_habit_step,l_habit_place,l_habit_sink⟩,l_sights,l_notes⟩:Life)))) :=
 zi (ps:=[_,_]) (caps:=[]) sh47 (e47 n (⟨⟨l_habit_step,l_habit_place,l_habit_sink⟩,l_sights,l_notes⟩:Life) c hs hc)
def zaX (l:Life) (c:List Int):PV:=if zW l c=0 then (match zao l c with
 | some t=>.tup [.agg t.told.cells,.int .i64 0]
 | none=>.tup [.agg [.nils,.nils,.nils],.int .i64 9]) else .tup [.agg [.nils,.nils,.nils],.int .i64 (zW l c)]
theorem sh31:G.shared 31=false:=by decide
theorem e31 (n:Nat) (l:Life) (c:Sl Int) (hs:zb8 l) (hc:c.xs.length < 1000):zK G (n+8) 31 [.agg l.cells,c.pv intF 1]=some (zaX l c.xs):=by
 refine zy (zx _) rfl g31 rfl ?_
 have hP:Hide (zaX l c.xs=if zW l c.xs=0 then (match zao l c.xs with
  | some t=>.tup [.agg t.told.cells,.int .i64 0]
  | none=>.tup [.agg [.nils,.nils,.nils],.int .i64 9]) else .tup [.agg [.nils,.nils,.nils],.int .i64 (zW l c.xs)]):=⟨rfl⟩
 generalize zaX l c.xs=P at *
 by_cases hg:zW l c.xs=0
 ·obtain ⟨hr,h1,h2⟩:=zcU hg;have hct:∀ H,zu (zg G (n+7)) H (.pure (.func 48 [])) [.pure (.agg l.cells),.pure (c.pv intF 1)]=some (.val (.pure (zaK (zao l c.xs)))):=fun H=>d48 n H l.habit.step l.habit.place l.habit.sink l.sights l.notes c hr h1 h2;simp only [Life.cells] at hct
  cases ht:zao l c.xs with
  | none =>
   have hP2:P=.tup [.agg [.nils,.nils,.nils],.int .i64 9]:=by rw [hP.h,if_pos hg,ht]
   (repeat' first|simp [*,ze,c31,zaK]|(apply zb<;>intro _ h<;>try simp [-Nat.le_zero_eq] at h))
  | some t =>
   have hP2:P=.tup [.agg t.told.cells,.int .i64 0]:=by rw [hP.h,if_pos hg,ht]
   (repeat' first|simp [*,ze,c31,zaK]|(apply zb<;>intro _ h<;>try simp [-Nat.le_zero_eq] at h))
 ·have hP2:P=.tup [.agg [.nils,.nils,.nils],.int .i64 (zW l c.xs)]:=by rw [hP.h,if_neg hg]
  (repeat' first|simp [*,ze,c31]|(apply zb<;>intro _ h<;>try simp [-Nat.le_zero_eq] at h))
@[simp] theorem d31 (n:Nat) (H:Heap) (l_habit_step:Int) (l_habit_place:Int) (l_habit_sink:Int) (l_sights:Sl Sight) (l_notes:Sl Note) (c:Sl Int) (hs:(fun (l:Life)=>zb8 l) (⟨⟨l_habit_step,l_habit_place,l_habit_sink⟩,l_sights,l_notes⟩:Life)) (hc:c.xs.length < 1000):zu (zg G (n+8)) H (.pure (.func 31 [])) [.pure (.agg [.int .i64 l_habit_step,.int .i64 l_habit_place,.int .i64 l_habit_sink,(l_sights).pv Sight.cells 9,(l_notes).pv Note.cells 4]),.pure (c.pv intF 1)]=some (.val (.pure ((fun (l:Life)=>zaX l c.xs) (⟨⟨l_habit_step,l_habit_place,l_habit_sink⟩,l_sights,l_notes⟩:Life)))) :=
 zi (ps:=[_,_]) (caps:=[]) sh31 (e31 n (⟨⟨l_habit_step,l_habit_place,l_habit_sink⟩,l_sights,l_notes⟩:Life) c hs hc)
theorem sh16:G.shared 16=false:=by decide
theorem e16 (n:Nat) (l:Life) (c:Sl Int) (hs:zb8 l) (hc:c.xs.length < 1000):zK G (n+8) 16 [.agg l.cells,c.pv intF 1]=some ((if zW l c.xs=0 then .tup [.bool (zao l c.xs).isSome,.int .i64 0] else .tup [.bool false,.int .i64 (zW l c.xs)])):=by
 refine zy (zx _) rfl g16 rfl ?_
 by_cases hg:zW l c.xs=0
 ·obtain ⟨hr,h1,h2⟩:=zcU hg;have hct:∀ H,zu (zg G (n+7)) H (.pure (.func 48 [])) [.pure (.agg l.cells),.pure (c.pv intF 1)]=some (.val (.pure (zaK (zao l c.xs)))):=fun H=>d48 n H l.habit.step l.habit.place l.habit.sink l.sights l.notes c hr h1 h2;simp only [Life.cells] at hct
  cases ht:zao l c.xs with
  | none=>(repeat' first|simp [*,ze,c16,zaK]|(apply zb<;>intro _ h<;>try simp [-Nat.le_zero_eq] at h))
  | some t=>(repeat' first|simp [*,ze,c16,zaK]|(apply zb<;>intro _ h<;>try simp [-Nat.le_zero_eq] at h))
 ·(repeat' first|simp [*,ze,c16]|(apply zb<;>intro _ h<;>try simp [-Nat.le_zero_eq] at h))
def zhg (g:TellR->PV) (l:Life) (c:List Int):PV:=if zW l c=0 then (match zao l c with
 | some t=>.tup [g t,.int .i64 0]
 | none=>.tup [.nils,.int .i64 9]) else .tup [.nils,.int .i64 (zW l c)]
theorem e20 (n:Nat) (l:Life) (c:Sl Int) (hs:zb8 l) (hc:c.xs.length < 1000):zK G (n+9) 20 [.agg l.cells,c.pv intF 1]=some (zhg (fun t=>(Sl.of t.letters).pv strF 1) l c.xs):=by
 refine zy (zx _) rfl g20 rfl ?_
 by_cases hg:zW l c.xs=0
 ·cases ht:zao l c.xs with
  | none=>(repeat' first|simp [*,ze,c20,zaX,zhg]|(apply zb<;>intro _ h<;>try simp [-Nat.le_zero_eq] at h))
  | some t=>(repeat' first|simp [*,ze,c20,zaX,zhg,TellR.told]|(apply zb<;>intro _ h<;>try simp [-Nat.le_zero_eq] at h))
 ·(repeat' first|simp [*,ze,c20,zaX,zhg]|(apply zb<;>intro _ h<;>try simp [-Nat.le_zero_eq] at h))
section
variable {H H2:Heap} {B K:Nat} {va vb vc v2:AV} {x y h:List Span} {o:AObj} {s:Span}
end
def sub (s t:Span):Prop:=t.lo<=s.lo/\s.hi<=t.hi
def full (s:Span):Prop:=s.lo<=s.hi
theorem zdO (s:Span):sub s s:=⟨Int.le_refl _,Int.le_refl _⟩
theorem zgC {a b c:Span} (h:sub a b) (h':sub b c):sub a c:=by unfold sub at *;omega
theorem zkZ {a b c:Span} (h:sub a b) (h':sub a c):sub a (zaA b c):=by unfold sub zaA at *;simp only;omega
theorem zdG (a b:Span):sub (zaA a b) a:=by unfold sub zaA;simp only;omega
theorem zfE (a b:Span):sub (zaA a b) b:=by unfold sub zaA;simp only;omega
structure Gaps (R:Span->Prop) (on back:Nat->Span->Span):Prop where
 mon:∀ k s t,sub s t->sub (on k s) (on k t)
 mback:∀ k s t,sub s t->sub (back k s) (back k t)
 gal:∀ k f t,sub t (on k f)->sub t (on k (zaA f (back k t)))
 fullM:∀ k f t,R f->full f->full t->sub t (on k f)->full (zaA f (back k t))
 sub:∀ s t,R t->sub s t->R s
section
variable {R:Span->Prop} {on back:Nat->Span->Span} {l:List Span}
def fN (on:Nat->Span->Span) (l:List Span):Nat->Span
 | 0=>l[0]!
 | k+1=>zaA l[k+1]! (on k (fN on l k))
theorem zh6 (on:Nat->Span->Span) (l:List Span):∀ (m k:Nat),m=l.length - k->k<=l.length ->
  ((∀ i,k<=i->i < l.length->full (fN on l i))->fwdS on k (if k=0 then none else some (fN on l (k-1))) (l.drop k)=some (((List.range l.length).drop k).map (fN on l))) /\
  ((∃ i,k<=i/\i < l.length/\¬ full (fN on l i))->fwdS on k (if k=0 then none else some (fN on l (k-1))) (l.drop k)=none):=by
 intro m
 induction m with
 | zero =>
  intro k hm hk;have:k=l.length:=by omega
  subst this
  refine ⟨fun _=>?_,fun ⟨i,h1,h2,_⟩=>by omega⟩
  rw [List.drop_length,List.drop_eq_nil_of_le (by simp)];rfl
 | succ m ih =>
  intro k hm hk;have hlt:k < l.length:=by omega
  have hh:zdj on k (if k=0 then none else some (fN on l (k-1))) l[k]=fN on l k:=by
   cases k with
   | zero=>simp [zdj,fN,getElem!_pos l 0 hlt]
   | succ k=>simp [zdj,fN,getElem!_pos l (k+1) hlt]
  have hst:=zgl (on:=on) (p:=if k=0 then none else some (fN on l (k-1))) hlt hh.symm;have ih':=ih (k+1) (by omega) (by omega);rw [if_neg (by omega),Nat.add_sub_cancel] at ih';have hr:(List.range l.length).drop k=k::(List.range l.length).drop (k+1):=by
   rw [List.drop_eq_getElem_cons (by simpa using hlt)];simp
  constructor
  ·intro hall;rw [hst,if_neg (by have:=hall k (Nat.le_refl _) hlt;unfold full at this;omega),ih'.1 (fun i h1 h2=>hall i (by omega) h2),hr];rfl
  ·rintro ⟨i,h1,h2,h3⟩;rw [hst]
   by_cases hf:(fN on l k).hi < (fN on l k).lo
   ·rw [if_pos hf]
   ·rw [if_neg hf];have hik:i≠k:=fun e=>by subst e;exact h3 (by unfold full;omega)
    rw [ih'.2 ⟨i,by omega,h2,h3⟩];rfl
def fL (on:Nat->Span->Span) (l:List Span):List Span:=(List.range l.length).map (fN on l)
theorem zf9 (on:Nat->Span->Span) (l:List Span):(fL on l).length=l.length:=by simp [fL]
theorem zop (on:Nat->Span->Span) (l:List Span) (i:Nat) (h:i < (fL on l).length):(fL on l)[i]=fN on l i:=by simp [fL]
theorem zg5 (h:∀ i,i < l.length->full (fN on l i)):zaw on back l=some (bwdS back 0 (fL on l)):=by
 have:=(zh6 on l l.length 0 (by omega) (by omega)).1 (fun i _ hi=>h i hi);simp only [if_true,List.drop_zero] at this;rw [zaw,this];rfl
theorem zg4 (h:∃ i,i < l.length/\¬ full (fN on l i)):zaw on back l=none:=by
 obtain ⟨i,h1,h2⟩:=h;have:=(zh6 on l l.length 0 (by omega) (by omega)).2 ⟨i,by omega,h1,h2⟩;simp only [if_true,List.drop_zero] at this;rw [zaw,this];rfl
theorem zdJ (back:Nat->Span->Span):∀ (l:List Span) (k j:Nat),(bwdS back k l).drop j=bwdS back (k+j) (l.drop j)
 | [],k,j=>by simp [bwdS]
 | s::r,k,0=>rfl
 | s::r,k,j+1=>by
  have ih:=zdJ back r (k+1) j;have e:k+1+j=k+(j+1):=by omega
  rw [e] at ih;rw [List.drop_succ_cons,<- ih,bwdS];have hl:=zah back r (k+1)
  cases hb:bwdS back (k+1) r with
  | nil=>rw [hb] at hl;simp
  | cons t r'=>rfl
def bN (back:Nat->Span->Span) (F:List Span) (i:Nat):Span:=(bwdS back 0 F)[i]!
theorem zly {F:List Span} {j:Nat} (hj:j+1 < F.length):bN back F j=zaA F[j]! (back j (bN back F (j+1))):=by
 have hl:=zah back F 0;have h1:=zdJ back F 0 j;have h2:=zdJ back F 0 (j+1);simp only [Nat.zero_add] at h1 h2;have h3:=zgh (back:=back) hj;have e:∀ h,(bwdS back (j+1) (F.drop (j+1)))[0]'h=(bwdS back 0 F)[j+1]'(by omega):=fun h=>by
  have:=congrArg (fun x=>x[0]?) h2;simp only [List.getElem?_drop,Nat.add_zero] at this;rw [List.getElem?_eq_getElem (by omega),List.getElem?_eq_getElem h] at this;exact (Option.some.inj this).symm
 rw [e,<- h1] at h3;have h4:=congrArg (fun x=>x[0]?) h3;simp only [List.getElem?_drop,Nat.add_zero,List.getElem?_cons_zero] at h4;rw [List.getElem?_eq_getElem (by omega)] at h4;simp only [bN];rw [getElem!_pos (bwdS back 0 F) j (by omega),getElem!_pos (bwdS back 0 F) (j+1) (by omega),getElem!_pos F j (by omega)];exact Option.some.inj h4
theorem zl1 {F:List Span} {j:Nat} (hj:j+1=F.length):bN back F j=F[j]! := by
 have hl:=zah back F 0;have h1:=zdJ back F 0 j;simp only [Nat.zero_add] at h1;rw [zgv hj] at h1;have h4:=congrArg (fun x=>x[0]?) h1;simp only [List.getElem?_drop,Nat.add_zero] at h4;simp only [bN];rw [getElem!_pos (bwdS back 0 F) j (by omega),getElem!_pos F j (by omega)];rw [List.getElem?_eq_getElem (by omega),List.getElem?_eq_getElem (by omega)] at h4;exact Option.some.inj h4
theorem zlg (g:Gaps R on back) (hR:∀ s∈l,R s) {m:Nat} (hm:m+1=l.length) (hf:∀ i,i < l.length->full (fN on l i)) :
  ∀ d i,i+d=m->full (bN back (fL on l) i)/\sub (bN back (fL on l) i) (fN on l i)/\(i+1 < l.length->sub (bN back (fL on l) (i+1)) (on i (bN back (fL on l) i))/\sub (bN back (fL on l) i) (back i (bN back (fL on l) (i+1)))):=by
 have hFl:(fL on l).length=l.length:=zf9 on l;have hF:∀ i,i < l.length->(fL on l)[i]! = fN on l i:=fun i hi=>by rw [getElem!_pos _ i (by rw [hFl];exact hi),zop]
 have hRl:∀ i,i < l.length->R l[i]! := fun i hi=>by rw [getElem!_pos l i hi];exact hR _ (List.getElem_mem _)
 have hRf:∀ i,i < l.length->R (fN on l i):=fun i hi=>by
  refine g.sub _ _ (hRl i hi) ?_
  cases i with
  | zero=>exact zdO _
  | succ i=>exact zdG _ _
 intro d
 induction d with
 | zero =>
  intro i hi;have:i=m:=by omega
  subst this;rw [zl1 (by omega),hF _ (by omega)];exact ⟨hf _ (by omega),zdO _,fun h=>by omega⟩
 | succ d ih =>
  intro i hi;obtain ⟨h1,h2,_⟩:=ih (i+1) (by omega);have h3:sub (bN back (fL on l) (i+1)) (on i (fN on l i)):=zgC h2 (by rw [fN];exact zfE _ _);rw [zly (j:=i) (by omega),hF _ (by omega)];exact ⟨g.fullM i _ _ (hRf i (by omega)) (hf i (by omega)) h1 h3,zdG _ _,fun _=>⟨g.gal i _ _ h3,zfE _ _⟩⟩
end
end Go.Proofs.YtifmedfpnnfmoaaGreatDoor.Vm
