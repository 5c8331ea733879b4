/- What the functions that check lives compute: the program's, and the specification's. What the functions of courses compute: the program's, and the specification's. What the functions of spans and letters compute: the program's, and the specification's. What the functions of letters compute: the program's, and the specification's. What a course tells of a life: the program's function tell. What the specification's spans compute. What the specification's Can, Fits and Tell compute. Once forth and once back is what narrowing again and again comes to: plain Lean. -/
import Derived.Test.YtifmedfpnnfmoaaGreatDoorBk15
import Derived.Test.YtifmedfpnnfmoaaGreatDoorBk16
namespace Go.Proofs.YtifmedfpnnfmoaaGreatDoor.Vm
open Go
set_option linter.unusedSimpArgs false
set_option linter.unusedVariables false
set_option maxHeartbeats 400000
structure Habit where
 step:Int
 place:Int
 sink:Int
 deriving Inhabited
@[simp] def Habit.cells (s:Habit):List PV:=[.int .i64 s.step,.int .i64 s.place,.int .i64 s.sink]
@[simp] theorem Habit.eta (s:Habit):(⟨s.step,s.place,s.sink⟩:Habit)=s:=rfl
structure Note where
 id:Int
 kind:Int
 fr:Int
 to:Int
 deriving Inhabited
@[simp] def Note.cells (s:Note):List PV:=[.int .i64 s.id,.int .i64 s.kind,.int .i64 s.fr,.int .i64 s.to]
@[simp] theorem Note.eta (s:Note):(⟨s.id,s.kind,s.fr,s.to⟩:Note)=s:=rfl
structure Life where
 habit:Habit
 sights:Sl Sight
 notes:Sl Note
 deriving Inhabited
@[simp] def Life.cells (s:Life):List PV:=[.int .i64 s.habit.step,.int .i64 s.habit.place,.int .i64 s.habit.sink,(s.sights).pv Sight.cells 9,(s.notes).pv Note.cells 4]
@[simp] theorem Life.eta (s:Life):(⟨s.habit,s.sights,s.notes⟩:Life)=s:=rfl
def inB (a b c:Int):Bool:=decide (b<=a)&&decide (a<=c)
def zbq (h:Habit):Bool:=inB h.step 0 10000&&inB h.place 0 10000&&inB h.sink 0 20
theorem sh68:G.shared 68=false:=by decide
theorem e68 (n:Nat) (h:Habit):zD G (n+2) 68 [.agg h.cells]=some (.bool (zbq h)):=by
 refine zo (zm _) rfl g68 rfl ?_
 (repeat' first|simp [*,zb,c68,Habit.cells,zbq,inB]|(apply za<;>intro _ h<;>try simp [-Nat.le_zero_eq] at h))
@[simp] theorem d68 (n:Nat) (H:Heap) (h_step:Int) (h_place:Int) (h_sink:Int):zn (zg G (n+2)) H (.pure (.func 68 [])) [.pure (.agg [.int .i64 h_step,.int .i64 h_place,.int .i64 h_sink])]=some (.val (.pure ((fun (h:Habit)=>.bool (zbq h)) (⟨h_step,h_place,h_sink⟩:Habit)))) :=
 zh (ps:=[_]) (caps:=[]) sh68 (e68 n (⟨h_step,h_place,h_sink⟩:Habit))
theorem sh39:G.shared 39=false:=by decide
theorem e39 (n:Nat) (h:Habit):zD G (n+2) 39 [.agg h.cells]=some (.bool (zbq h)):=by
 refine zo (zm _) rfl g39 rfl ?_
 (repeat' first|simp [*,zb,c39,Habit.cells,zbq,inB]|(apply za<;>intro _ h<;>try simp [-Nat.le_zero_eq] at h))
@[simp] theorem d39 (n:Nat) (H:Heap) (h_step:Int) (h_place:Int) (h_sink:Int):zn (zg G (n+2)) H (.pure (.func 39 [])) [.pure (.agg [.int .i64 h_step,.int .i64 h_place,.int .i64 h_sink])]=some (.val (.pure ((fun (h:Habit)=>.bool (zbq h)) (⟨h_step,h_place,h_sink⟩:Habit)))) :=
 zh (ps:=[_]) (caps:=[]) sh39 (e39 n (⟨h_step,h_place,h_sink⟩:Habit))
def zaX (n:Note):Bool:=inB n.id 1 1099511627776&&inB n.kind 0 2&&decide (0<=n.fr)&&decide (n.fr<=n.to)&&decide (n.to<=4000)
def zau (l:List Sight) (i:Nat):Bool:=zbW l[i]! && (decide (i=0)||decide (l[i-1]!.year < l[i]!.year))
theorem zat {l:List Sight} {i:Nat} (h:i < l.length):zau l i=(zbW l[i]&&(decide (i=0)||decide ((l[i-1]'(by omega)).year < l[i].year))):=by
 simp only [zau,getElem!_pos l i h,getElem!_pos l (i - 1) (by omega)]
def Life.ids (l:Life):List Int:=l.sights.xs.map (·.id)++l.notes.xs.map (·.id)
def allL {α:Type} (p:α->Bool):List α->Bool
 | []=>true
 | a::l=>p a&&allL p l
theorem zaF {α:Type} {p:α->Bool} {l:List α} {i:Nat} (h:i < l.length):allL p (l.drop i)=(p l[i]&&allL p (l.drop (i+1))):=by
 rw [List.drop_eq_getElem_cons h,allL]
theorem zc2 {α:Type} {p:α->Bool} {l:List α} {i:Nat} (h:l.length<=i):allL p (l.drop i)=true:=by
 rw [List.drop_eq_nil_of_le h,allL]
def zR (l:Life):Int:=if zbq l.habit=false then 1 else if (l.sights.xs.length:Int) < 1\/9 < (l.sights.xs.length:Int)\/20 < (l.notes.xs.length:Int) then 2 else
 if zaw (zau l.sights.xs) l.sights.xs.length l.sights.xs.length=false then 1 else if allL zaX l.notes.xs=false then 1 else if l.ids.Nodup then 0 else 6
def differ (ids:List Int) (i j:Nat):Prop:=ids[j]! ≠ ids[i]!
theorem sh10:G.shared 10=false:=by decide
theorem e10 (n:Nat) (l:Life) (hl:l.sights.xs.length<=9->l.notes.xs.length<=20->∀ s∈l.sights.xs,s.letters.length<=20):zD G (n+5) 10 [.agg l.cells]=some (.int .i64 (zR l)):=by
 refine zo (zm _) rfl g10 rfl ?_
 (repeat' first|simp [*,zb,c10]|(apply za<;>intro _ h<;>try simp [-Nat.le_zero_eq] at h)|(show wpE 0 (zl ..) ..;refine zw ?_)|(refine zi fun v2 H2 hv2 hnx2 hget2 hnew2 hone2 hcel2=>?_))
 all_goals try first
  | (simp [zR, *];done)
  | (simp [zR, *];omega)
 have hP:Hide (zR l=if zaw (zau l.sights.xs) l.sights.xs.length l.sights.xs.length=false then 1 else if allL zaX l.notes.xs=false then 1 else if l.ids.Nodup then 0 else 6):=by
  constructor
  rw [zR,if_neg (by simp [*])]
  split
  ·omega
  ·rfl
 generalize zR l=P at *
 refine zF [(2,2),(4,6),(34,77)] (fun (i:Nat) env H=>env 5=.pure (.int .i64 i)/\i<=l.sights.xs.length/\GrowV intF 1 H (env 4) ((l.sights.xs.take i).map (·.id)) /\
   Hide (zaw (zau l.sights.xs) l.sights.xs.length l.sights.xs.length=zaw (zau l.sights.xs) l.sights.xs.length (l.sights.xs.length - i))) (fun i=>l.sights.xs.length - i) 0 ?_ ?_ ?_ ?_
 ·decide
 ·simp [GrowV.nil]
 ·simp only [zB];omega
 rintro i env H ⟨h5,hi,hg,hall⟩;have hl2:∀ (h:i < l.sights.xs.length),l.sights.xs[i].letters.length < 1152921504606846975:=fun h=>by have:=hl (by omega) (by omega) _ (List.getElem_mem h);omega
 have hfit:i < 9223372036854775807:=by omega
 have hp1:i - 1 < l.sights.xs.length:=by omega
 have bad:∀ h:i < l.sights.xs.length,zau l.sights.xs i=false->Hide (P=1):=fun h h1=>⟨by rw [hP.h,hall.h,zce h,h1];simp⟩
 have good:∀ h:i < l.sights.xs.length,zau l.sights.xs i=true->Hide (zaw (zau l.sights.xs) l.sights.xs.length l.sights.xs.length=zaw (zau l.sights.xs) l.sights.xs.length (l.sights.xs.length - (i+1))):=fun h h1=>⟨by rw [hall.h,zce h,h1];simp⟩
 (repeat' first|simp [*,zb]|(apply za<;>intro _ h<;>try simp [-Nat.le_zero_eq] at h)|(show wpE 0 (zl ..) ..;refine zw ?_)|(refine zi fun v2 H2 hv2 hnx2 hget2 hnew2 hone2 hcel2=>?_))
 all_goals try (exact (bad (by assumption) (by first|(simp [zat, *];done)|(simp [zat, *];omega))).h.symm)
 all_goals try (refine ⟨i+1,by omega,by simp,by omega,?_,good (by assumption) (by first|(simp [zat, *];done)|(simp [zat, *];omega))⟩;refine hv2.cast ?_;simp [List.take_add_one, *];done)
 have hn:i=l.sights.xs.length:=by omega
 subst hn;clear bad good h5 hl2 hp1 hi hfit;rw [List.take_length] at hg;have hP2:Hide (P=if allL zaX l.notes.xs=false then 1 else if l.ids.Nodup then 0 else 6):=⟨by rw [hP.h,hall.h,ze9 (Nat.le_refl _)];rfl⟩
 clear hP hall
 refine zF [(2,2),(4,4),(7,10),(78,123)] (fun (i:Nat) env H=>env 7=.pure (.int .i64 i)/\i<=l.notes.xs.length/\GrowV intF 1 H (env 4) (l.sights.xs.map (·.id)++(l.notes.xs.take i).map (·.id)) /\
   Hide (allL zaX l.notes.xs=allL zaX (l.notes.xs.drop i))) (fun i=>l.notes.xs.length - i) 0 ?_ ?_ ?_ ?_
 ·decide
 ·simp [hg]
 ·simp only [zB];omega
 rintro i env H ⟨h5,hi,hg,hall⟩;have hfit:i < 9223372036854775807:=by omega
 have bad:∀ h:i < l.notes.xs.length,zaX l.notes.xs[i]=false->Hide (P=1):=fun h h1=>⟨by rw [hP2.h,hall.h,zaF h,h1];simp⟩
 have good:∀ h:i < l.notes.xs.length,zaX l.notes.xs[i]=true->Hide (allL zaX l.notes.xs=allL zaX (l.notes.xs.drop (i+1))):=fun h h1=>⟨by rw [hall.h,zaF h,h1];simp⟩
 (repeat' first|simp [*,zb]|(apply za<;>intro _ h<;>try simp [-Nat.le_zero_eq] at h)|(show wpE 0 (zl ..) ..;refine zw ?_)|(refine zi fun v2 H2 hv2 hnx2 hget2 hnew2 hone2 hcel2=>?_))
 all_goals try (exact (bad (by assumption) (by first|(simp [zaX,inB, *];done)|(simp [zaX,inB, *];omega))).h.symm)
 all_goals try (refine ⟨i+1,by omega,by simp,by omega,?_,good (by assumption) (by first|(simp [zaX,inB, *];done)|(simp [zaX,inB, *];omega))⟩;refine hv2.cast ?_;simp [List.take_add_one, *];done)
 have hn:i=l.notes.xs.length:=by omega
 subst hn;have hP3:Hide (P=if l.ids.Nodup then 0 else 6):=⟨by rw [hP2.h,hall.h,zc2 (Nat.le_refl _)];rfl⟩
 have hids:l.sights.xs.map (·.id)++(l.notes.xs.take l.notes.xs.length).map (·.id)=l.ids:=by rw [List.take_length];rfl
 rw [hids] at hg;have hlen:l.ids.length < 100:=by simp [Life.ids];omega
 have hne:l.ids≠[]:=by
  intro h0;have h1:l.ids.length=0:=by rw [h0];rfl
  have h2:l.ids.length=l.sights.xs.length+l.notes.xs.length:=by simp [Life.ids]
  omega
 clear bad good hfit hP2 hall hi h5 hids;generalize l.ids=ids at *;obtain ⟨id,hrow,hget⟩:=hg.1.row hne
 refine zF [(2,2),(11,12),(124,143)] (fun (i:Nat) env H=>env 11=.pure (.int .i64 i)/\i<=ids.length/\H.get id=.cells true (zx intF ids)/\Hide ((ids.take i).Nodup)) (fun i=>ids.length - i) 0 ?_ ?_ ?_ ?_
 ·decide
 ·simp [hget]
 ·simp only [zB];omega
 rintro i env H ⟨h5,hi,hget,hnd⟩;have hfit:i < 9223372036854775807:=by omega
 have hstep:∀ h:i < ids.length,(∀ j,j < i->differ ids i j)->Hide ((ids.take (i+1)).Nodup):=fun h hj=>⟨by
  rw [<- zaO h,List.nodup_append]
  refine ⟨hnd.h,by simp,fun a ha b hb e=>?_⟩
  simp at hb;subst hb;obtain ⟨j,hj1,hj2⟩:=List.getElem_of_mem ha;simp at hj1 hj2
  refine hj j (by omega) ?_
  rw [getElem!_pos ids j (by omega),getElem!_pos ids i h,hj2,e]⟩
 (repeat' first|simp [*,zb]|(apply za<;>intro _ h<;>try simp [-Nat.le_zero_eq] at h)|(show wpE 0 (zl ..) ..;refine zw ?_)|(refine zi fun v2 H2 hv2 hnx2 hget2 hnew2 hone2 hcel2=>?_))
 ·have hi1:i < ids.length:=by assumption
  refine zF [(2,2),(12,12),(130,143)] (fun (k:Nat) env H=>env 12=.pure (.int .i64 k)/\k<=i/\H.get id=.cells true (zx intF ids)/\Hide (∀ j,j < k->differ ids i j)) (fun k=>i - k) 0 ?_ ?_ ?_ ?_
  ·decide
  ·simp [hget]
  ·simp only [zB];omega
  rintro k env H ⟨h5,hi,hget,hne⟩;have hk1:k < i->k < ids.length:=fun h=>by omega
  have hfit:k < 9223372036854775807:=by omega
  (repeat' first|simp [*,zb]|(apply za<;>intro _ h<;>try simp [-Nat.le_zero_eq] at h)|(show wpE 0 (zl ..) ..;refine zw ?_)|(refine zi fun v2 H2 hv2 hnx2 hget2 hnew2 hone2 hcel2=>?_))
  ·have hk:k < i:=by assumption
   have he:ids[i]=ids[k]'(by omega):=by assumption
   rw [hP3.h,if_neg];intro hN;exact (List.pairwise_iff_getElem.1 hN) k i (by omega) hi1 hk he.symm
  ·have hk:k < i:=by assumption
   have he:¬ ids[i]=ids[k]'(by omega):=by assumption
   refine ⟨k+1,by omega,by simp,by omega,⟨fun j hj=>?_⟩⟩
   by_cases hjk:j < k
   ·exact hne.h j hjk
   ·have:j=k:=by omega
    subst this;unfold differ;rw [getElem!_pos ids j (by omega),getElem!_pos ids i hi1];exact fun e=>he e.symm
  ·have hk:k=i:=by omega
   subst hk;exact ⟨k+1,by omega,by simp,by omega,hstep hi1 hne.h⟩
 ·have:i=ids.length:=by omega
  subst this;have h9:=hnd.h;rw [List.take_length] at h9;rw [hP3.h,if_pos h9]
@[simp] theorem d10 (n:Nat) (H:Heap) (l_habit_step:Int) (l_habit_place:Int) (l_habit_sink:Int) (l_sights:Sl Sight) (l_notes:Sl Note) (hl:(fun (l:Life)=>l.sights.xs.length<=9->l.notes.xs.length<=20->∀ s∈l.sights.xs,s.letters.length<=20) (⟨⟨l_habit_step,l_habit_place,l_habit_sink⟩,l_sights,l_notes⟩:Life)):zn (zg G (n+5)) H (.pure (.func 10 [])) [.pure (.agg [.int .i64 l_habit_step,.int .i64 l_habit_place,.int .i64 l_habit_sink,(l_sights).pv Sight.cells 9,(l_notes).pv Note.cells 4])]=some (.val (.pure ((fun (l:Life)=>.int .i64 (zR l)) (⟨⟨l_habit_step,l_habit_place,l_habit_sink⟩,l_sights,l_notes⟩:Life)))) :=
 zh (ps:=[_]) (caps:=[]) sh10 (e10 n (⟨⟨l_habit_step,l_habit_place,l_habit_sink⟩,l_sights,l_notes⟩:Life) hl)
theorem zli (l:List Int):(zal (zaM l)).length < l.length↔¬ l.Nodup:=by
 have hs:∀ (l:List Int) (o:Option Int),l.Pairwise (·<=·)->(∀ x,o=some x->∀ y∈l,x<=y)->((goC o l).length < l.length↔¬ (l.Nodup/\∀ x,o=some x->x ∉ l)):=by
  intro l
  induction l with
  | nil=>intro o _ _;simp [goC]
  | cons a r ih =>
   intro o hp ho;rw [List.pairwise_cons] at hp;simp only [goC]
   split
   ·rename_i h;have:=zjI r o
    constructor
    ·intro _ ⟨_,h2⟩;exact h2 a h (by simp)
    ·intro _;simp;omega
   ·rename_i h;rw [List.length_cons,List.length_cons,Nat.add_lt_add_iff_right,ih (some a) hp.2 (fun x hx y hy=>by simp at hx;subst hx;exact hp.1 y hy)];rw [not_congr];rw [List.nodup_cons]
    constructor
    ·rintro ⟨h1,h2⟩
     refine ⟨⟨h2 a rfl,h1⟩,fun x hx hm=>?_⟩
     rcases List.mem_cons.1 hm with rfl|hm
     ·exact h hx
     ·have h3:=ho x hx a (by simp);have h4:=hp.1 x hm;have:x=a:=by omega
      subst this;exact h hx
    ·rintro ⟨⟨h1,h2⟩,h3⟩;exact ⟨h2,fun x hx=>by simp at hx;subst hx;exact h1⟩
 have:=hs (zaM l) none (zdc l) (fun x hx=>by simp at hx);rw [zbL] at this;rw [zal,this,(zdn l).nodup_iff];simp
theorem zmY (n:Nat) (args:List AV) (H:Heap) (r:AV×Heap) (h:zds args H=some r):Vm.call G (n+1) (.fn 65) args H=some r:=by
 rw [zfy];have:G.extRun 65 args H=zds args H:=rfl;rw [this,h]
theorem zmP:G.shared 65=true:=by decide
theorem zik:G.shared 32=true:=by decide
theorem zkb:G.shared 70=true:=by decide
theorem sh29:G.shared 29=false:=by decide
theorem e29 (n:Nat) (l:Life) (hl:l.sights.xs.length<=9->l.notes.xs.length<=20->∀ s∈l.sights.xs,s.letters.length<=20):zD G (n+5) 29 [.agg l.cells]=some (.int .i64 (zR l)):=by
 refine zo (zm _) rfl g29 rfl ?_
 (repeat' first|simp [*,zb,c29]|(apply za<;>intro _ h<;>try simp [-Nat.le_zero_eq] at h)|(show wpE 0 (zl ..) ..;refine zw ?_)|(refine zi fun v2 H2 hv2 hnx2 hget2 hnew2 hone2 hcel2=>?_))
 all_goals try first
  | (simp [zR, *];done)
  | (simp [zR, *];omega)
 have hP:Hide (zR l=if zaw (zau l.sights.xs) l.sights.xs.length l.sights.xs.length=false then 1 else if allL zaX l.notes.xs=false then 1 else if l.ids.Nodup then 0 else 6):=by
  constructor
  rw [zR,if_neg (by simp [*])]
  split
  ·omega
  ·rfl
 generalize zR l=P at *
 refine zF [(2,6),(29,58)] (fun (i:Nat) env H=>env 29=.pure (.int .i64 i)/\i<=l.sights.xs.length/\GrowV intF 1 H (env 3) ((l.sights.xs.take i).map (·.id)) /\
   Hide (zaw (zau l.sights.xs) l.sights.xs.length l.sights.xs.length=zaw (zau l.sights.xs) l.sights.xs.length (l.sights.xs.length - i))) (fun i=>l.sights.xs.length - i) 0 ?_ ?_ ?_ ?_
 ·decide
 ·simp [GrowV.nil]
 ·simp only [zB];omega
 rintro i env H ⟨h5,hi,hg,hall⟩;have hfit:i < 9223372036854775807:=by omega
 have hp1:i - 1 < l.sights.xs.length:=by omega
 have bad:∀ h:i < l.sights.xs.length,zau l.sights.xs i=false->Hide (P=1):=fun h h1=>⟨by rw [hP.h,hall.h,zce h,h1];simp⟩
 have good:∀ h:i < l.sights.xs.length,zau l.sights.xs i=true->Hide (zaw (zau l.sights.xs) l.sights.xs.length l.sights.xs.length=zaw (zau l.sights.xs) l.sights.xs.length (l.sights.xs.length - (i+1))):=fun h h1=>⟨by rw [hall.h,zce h,h1];simp⟩
 (repeat' first|simp [*,zb,zgM]|(apply za<;>intro _ h<;>try simp [-Nat.le_zero_eq] at h)|(show wpE 0 (zl ..) ..;refine zw ?_)|(refine zi fun v2 H2 hv2 hnx2 hget2 hnew2 hone2 hcel2=>?_))
 all_goals try (exact (bad (by assumption) (by first|(simp [zat, *];done)|(simp [zat, *];omega))).h.symm)
 all_goals try (refine ⟨i+1,by omega,by simp,by omega,?_,good (by assumption) (by first|(simp [zat, *];done)|(simp [zat, *];omega))⟩;refine hv2.cast ?_;simp [List.take_add_one, *];done)
 have hn:i=l.sights.xs.length:=by omega
 subst hn;clear bad good h5 hp1 hi hfit;rw [List.take_length] at hg;have hP2:Hide (P=if allL zaX l.notes.xs=false then 1 else if l.ids.Nodup then 0 else 6):=⟨by rw [hP.h,hall.h,ze9 (Nat.le_refl _)];rfl⟩
 clear hP hall
 refine zF [(2,3),(8,8),(62,98)] (fun (i:Nat) env H=>env 62=.pure (.int .i64 i)/\i<=l.notes.xs.length/\GrowV intF 1 H (env 3) (l.sights.xs.map (·.id)++(l.notes.xs.take i).map (·.id)) /\
   Hide (allL zaX l.notes.xs=allL zaX (l.notes.xs.drop i))) (fun i=>l.notes.xs.length - i) 0 ?_ ?_ ?_ ?_
 ·decide
 ·simp [hg]
 ·simp only [zB];omega
 rintro i env H ⟨h5,hi,hg,hall⟩;have hfit:i < 9223372036854775807:=by omega
 have bad:∀ h:i < l.notes.xs.length,zaX l.notes.xs[i]=false->Hide (P=1):=fun h h1=>⟨by rw [hP2.h,hall.h,zaF h,h1];simp⟩
 have good:∀ h:i < l.notes.xs.length,zaX l.notes.xs[i]=true->Hide (allL zaX l.notes.xs=allL zaX (l.notes.xs.drop (i+1))):=fun h h1=>⟨by rw [hall.h,zaF h,h1];simp⟩
 (repeat' first|simp [*,zb]|(apply za<;>intro _ h<;>try simp [-Nat.le_zero_eq] at h)|(show wpE 0 (zl ..) ..;refine zw ?_)|(refine zi fun v2 H2 hv2 hnx2 hget2 hnew2 hone2 hcel2=>?_))
 all_goals try (exact (bad (by assumption) (by first|(simp [zaX,inB, *];done)|(simp [zaX,inB, *];omega))).h.symm)
 all_goals try (refine ⟨i+1,by omega,by simp,by omega,?_,good (by assumption) (by first|(simp [zaX,inB, *];done)|(simp [zaX,inB, *];omega))⟩;refine hv2.cast ?_;simp [List.take_add_one, *];done)
 have hn:i=l.notes.xs.length:=by omega
 subst hn;have hP3:Hide (P=if l.ids.Nodup then 0 else 6):=⟨by rw [hP2.h,hall.h,zc2 (Nat.le_refl _)];rfl⟩
 have hids:l.sights.xs.map (·.id)++(l.notes.xs.take l.notes.xs.length).map (·.id)=l.ids:=by rw [List.take_length];rfl
 rw [hids] at hg;have hlen:l.ids.length < 100:=by simp [Life.ids];omega
 have hne:l.ids≠[]:=by
  intro h0;have h1:l.ids.length=0:=by rw [h0];rfl
  have h2:l.ids.length=l.sights.xs.length+l.notes.xs.length:=by simp [Life.ids]
  omega
 clear bad good hfit hP2 hall hi h5 hids;generalize l.ids=ids at *;obtain ⟨id,hrow,hget⟩:=hg.1.row hne;obtain ⟨H1,hs1,hs2,hs3,hs4,hs5⟩:=ziu (v:=env 3) (l:=ids) ⟨id,[],hrow,by rw [List.append_nil];exact hget⟩ (by simp [zt];omega);rw [hrow] at hs5;have hget1:=hs5 id rfl hget;clear hs2 hs5
 refine zd3 (caps:=[]) zmP ⟨_,_,zmY _ _ _ _ hs1,?_⟩
 (repeat' first|simp [*,zb]|(apply za<;>intro _ h<;>try simp [-Nat.le_zero_eq] at h)|(show wpE 0 (zl ..) ..;refine zw ?_)|(refine zi fun v2 H2 hv2 hnx2 hget2 hnew2 hone2 hcel2=>?_));have il:=zbL ids
 refine zd3 (caps:=[]) zik ?_
 have hsc:zI H1 1 (.row id 1 0 ids.length)=some (zx intF (zaM ids),(zaM ids).length):=by
  rw [zdW,hget1];have:=zX (f:=intF) (sz:=1) (fun _=>rfl) (zaM ids);simp only [zdQ];rw [if_pos (by omega),Nat.zero_mul,List.drop_zero,List.take_of_length_le (by omega),il]
 refine zdr (b:=false) (fun _=>rfl) g32 hsc rfl (fun h=>by cases h) (fun _=>rfl) (by decide) (fun _=>rfl) (by simp [zt];omega) ?_
 intro v2 H2 hv2 hnil hnx hget2 hnew;obtain ⟨id2,hrow2,hget3⟩:=hv2.row (by intro h;rw [h] at il;simp at il;exact hne (List.eq_nil_of_length_eq_zero il.symm));subst hrow2;(repeat' first|simp [*,zb]|(apply za<;>intro _ h<;>try simp [-Nat.le_zero_eq] at h)|(show wpE 0 (zl ..) ..;refine zw ?_)|(refine zi fun v2 H2 hv2 hnx2 hget2 hnew2 hone2 hcel2=>?_))
 refine zd3 (caps:=[]) zkb ?_
 refine zhX (fun _ _=>rfl) g70 hget3 (by omega) il.symm ?_
 rintro v3 H3 ⟨id3,rest,hrow3,hg3⟩ hnx3 hoth3 hnam3;subst hrow3;have hnl:Hide _:=⟨zli ids⟩
 (repeat' first|simp [*,zb]|(apply za<;>intro _ h<;>try simp [-Nat.le_zero_eq] at h)|(show wpE 0 (zl ..) ..;refine zw ?_)|(refine zi fun v2 H2 hv2 hnx2 hget2 hnew2 hone2 hcel2=>?_))
 ·have hc:(zal (zaM ids)).length < ids.length:=by assumption
  rw [hP3.h,if_neg (hnl.h.1 hc)]
 ·have hc:¬ (zal (zaM ids)).length < ids.length:=by omega
  rw [hP3.h,if_pos (Classical.byContradiction fun h=>hc (hnl.h.2 h))]
@[simp] theorem d29 (n:Nat) (H:Heap) (l_habit_step:Int) (l_habit_place:Int) (l_habit_sink:Int) (l_sights:Sl Sight) (l_notes:Sl Note) (hl:(fun (l:Life)=>l.sights.xs.length<=9->l.notes.xs.length<=20->∀ s∈l.sights.xs,s.letters.length<=20) (⟨⟨l_habit_step,l_habit_place,l_habit_sink⟩,l_sights,l_notes⟩:Life)):zn (zg G (n+5)) H (.pure (.func 29 [])) [.pure (.agg [.int .i64 l_habit_step,.int .i64 l_habit_place,.int .i64 l_habit_sink,(l_sights).pv Sight.cells 9,(l_notes).pv Note.cells 4])]=some (.val (.pure ((fun (l:Life)=>.int .i64 (zR l)) (⟨⟨l_habit_step,l_habit_place,l_habit_sink⟩,l_sights,l_notes⟩:Life)))) :=
 zh (ps:=[_]) (caps:=[]) sh29 (e29 n (⟨⟨l_habit_step,l_habit_place,l_habit_sink⟩,l_sights,l_notes⟩:Life) hl)
set_option maxHeartbeats 4000000
def gapB (k:Int):Bool:=!(decide (0<=k)&&decide (k<=2))
def zgb (c:List Int) (i:Nat):Bool:=gapB c[i]!
def zbt (l:Life) (c:List Int):Bool:=decide ((c.length:Int)=l.sights.xs.length - 1) && !c.any gapB
theorem zpb:G.shared 114=false:=by decide
theorem e114 (n:Nat) (k:Int):zD G (n+2) 114 [.int .i64 k]=some (.bool (gapB k)):=by
 refine zo (zm _) rfl g114 rfl ?_
 (repeat' first|simp [*,zb,c114,gapB]|(apply za<;>intro _ h<;>try simp [-Nat.le_zero_eq] at h))
@[simp] theorem d114 (n:Nat) (H:Heap) (k:Int):zn (zg G (n+2)) H (.pure (.func 114 [])) [.pure (.int .i64 k)]=some (.val (.pure (.bool (gapB k)))) :=
 zh (ps:=[_]) (caps:=[]) zpb (e114 n k)
theorem zoO:G.shared 113=false:=by decide
theorem e113 (n:Nat) (c:Sl Int) (hc:c.xs.length < 1000):zD G (n+4) 113 [c.pv intF 1,.func 114 []]=some (.bool (c.xs.any gapB)):=by
 refine zo (zm _) rfl g113 rfl ?_
 have h:=zgx (n:=n+2) (f:=intF) (sz:=1) (g:=false) (p:=.func 114 []) (q:=gapB) (s:=c) (zm 145) (fun _ _=>rfl) g145 (fun _=>rfl) (by omega) (fun H a ha=>⟨.pure (.int .i64 a),rfl,d114 n H a⟩);have hd:∀ H,zn (zg G (n+3)) H (.pure (.func 145 [])) [.pure (c.pv intF 1),.pure (.func 114 [])]=some (.val (.pure (.int .i64 (idxL gapB c.xs 0)))):=fun H=>zhi (ps:=[_,_]) (by decide) h;have ha:=zi5 gapB c.xs 0;(repeat' first|simp [*,zb,c113,ha]|(apply za<;>intro _ h<;>try simp [-Nat.le_zero_eq] at h))
@[simp] theorem d113 (n:Nat) (H:Heap) (c:Sl Int) (hc:c.xs.length < 1000):zn (zg G (n+4)) H (.pure (.func 113 [])) [.pure (c.pv intF 1),.pure (.func 114 [])]=some (.val (.pure (.bool (c.xs.any gapB)))) :=
 zh (ps:=[_,_]) (caps:=[]) zoO (e113 n c hc)
theorem sh83:G.shared 83=false:=by decide
theorem e83 (n:Nat) (l:Life) (c:Sl Int) (hc:c.xs.length < 1000) (hl:l.sights.xs.length < 1000):zD G (n+5) 83 [.agg l.cells,c.pv intF 1]=some (.bool (zbt l c.xs)):=by
 refine zo (zm _) rfl g83 rfl ?_
 have hw:IntKind.i64.wrap ((l.sights.xs.length:Int) - 1)=(l.sights.xs.length:Int) - 1:=wrap64 (by omega) (by omega);(repeat' first|simp [*,zb,c83,zbt]|(apply za<;>intro _ h<;>try simp [-Nat.le_zero_eq] at h))
@[simp] theorem d83 (n:Nat) (H:Heap) (l_habit_step:Int) (l_habit_place:Int) (l_habit_sink:Int) (l_sights:Sl Sight) (l_notes:Sl Note) (c:Sl Int) (hc:c.xs.length < 1000) (hl:(fun (l:Life)=>l.sights.xs.length < 1000) (⟨⟨l_habit_step,l_habit_place,l_habit_sink⟩,l_sights,l_notes⟩:Life)):zn (zg G (n+5)) H (.pure (.func 83 [])) [.pure (.agg [.int .i64 l_habit_step,.int .i64 l_habit_place,.int .i64 l_habit_sink,(l_sights).pv Sight.cells 9,(l_notes).pv Note.cells 4]),.pure (c.pv intF 1)]=some (.val (.pure ((fun (l:Life)=>.bool (zbt l c.xs)) (⟨⟨l_habit_step,l_habit_place,l_habit_sink⟩,l_sights,l_notes⟩:Life)))) :=
 zh (ps:=[_,_]) (caps:=[]) sh83 (e83 n (⟨⟨l_habit_step,l_habit_place,l_habit_sink⟩,l_sights,l_notes⟩:Life) c hc hl)
theorem sh72:G.shared 72=false:=by decide
theorem e72 (n:Nat) (l:Life) (c:Sl Int) (hc:c.xs.length < 1000) (hl:l.sights.xs.length < 1000):zD G (n+1) 72 [.agg l.cells,c.pv intF 1]=some (.int .i64 (if zbt l c.xs=true then 0 else 50)):=by
 refine zo (zm _) rfl g72 rfl ?_
 have hw:IntKind.i64.wrap ((l.sights.xs.length:Int) - 1)=(l.sights.xs.length:Int) - 1:=wrap64 (by omega) (by omega);(repeat' first|simp [*,zb,c72]|(apply za<;>intro _ h<;>try simp [-Nat.le_zero_eq] at h))
 all_goals try (simp [zbt, *];done)
 have hk:(c.xs.length:Int)=l.sights.xs.length - 1:=by assumption
 have hP:Hide ((if zbt l c.xs=true then (0:Int) else 50)=if zaz (zgb c.xs) c.xs.length=true then 50 else 0):=by
  constructor
  have:zaz (zgb c.xs) c.xs.length=c.xs.any gapB:=by
   rw [Bool.eq_iff_iff,anyTo_iff,List.any_eq_true]
   constructor
   ·rintro ⟨i,h1,h2⟩;unfold zgb at h2;rw [getElem!_pos c.xs i h1] at h2;exact ⟨_,List.getElem_mem h1,h2⟩
   ·rintro ⟨x,h1,h2⟩;obtain ⟨i,h3,rfl⟩:=List.getElem_of_mem h1;exact ⟨i,h3,by unfold zgb;rw [getElem!_pos c.xs i h3];exact h2⟩
  rw [this];have hk2:zbt l c.xs=!c.xs.any gapB:=by simp only [zbt,decide_eq_true hk,Bool.true_and]
  simp only [hk2]
  cases c.xs.any gapB<;>rfl
 generalize (if zbt l c.xs=true then (0:Int) else 50)=P at *
 rename decide ((c.xs.length:Int)=(l.sights.xs.length:Int) - 1)=true=>hz1
 clear hk
 rename (c.xs.length:Int)=(l.sights.xs.length:Int) - 1=>hz2
 clear hz1 hz2
 refine zF [(4,5),(13,30)] (fun (i:Nat) env H=>env 5=.pure (.int .i64 i)/\i<=c.xs.length/\Hide (zaz (zgb c.xs) i=false)) (fun i=>c.xs.length - i) 0 ?_ ?_ ?_ ?_
 ·decide
 ·simp;exact ⟨rfl⟩
 ·simp only [zB];omega
 rintro i env H ⟨h5,hi,hn⟩;have hfit:i < 9223372036854775807:=by omega
 have bad:∀ h:i < c.xs.length,gapB c.xs[i]=true->Hide (P=50):=fun h h1=>⟨by
  rw [hP.h,zf4 h];rfl;show gapB c.xs[i]! = true;rw [getElem!_pos c.xs i h];exact h1⟩
 have good:∀ h:i < c.xs.length,gapB c.xs[i]=false->Hide (zaz (zgb c.xs) (i+1)=false):=fun h h1=>⟨by
  rw [zaz,hn.h,zgb,getElem!_pos c.xs i h,h1];rfl⟩
 (repeat' first|simp [*,zb]|(apply za<;>intro _ h<;>try simp [-Nat.le_zero_eq] at h))
 all_goals try (exact (bad (by assumption) (by first|(simp [gapB, *];done)|(simp [gapB, *];omega))).h.symm)
 all_goals try (exact ⟨i+1,by omega,by simp,by omega,good (by assumption) (by first|(simp [gapB, *];done)|(simp [gapB, *];omega))⟩)
 have:i=c.xs.length:=by omega
 subst this;rw [hP.h,hn.h];rfl
@[simp] theorem d72 (n:Nat) (H:Heap) (l_habit_step:Int) (l_habit_place:Int) (l_habit_sink:Int) (l_sights:Sl Sight) (l_notes:Sl Note) (c:Sl Int) (hc:c.xs.length < 1000) (hl:(fun (l:Life)=>l.sights.xs.length < 1000) (⟨⟨l_habit_step,l_habit_place,l_habit_sink⟩,l_sights,l_notes⟩:Life)):zn (zg G (n+1)) H (.pure (.func 72 [])) [.pure (.agg [.int .i64 l_habit_step,.int .i64 l_habit_place,.int .i64 l_habit_sink,(l_sights).pv Sight.cells 9,(l_notes).pv Note.cells 4]),.pure (c.pv intF 1)]=some (.val (.pure ((fun (l:Life)=>.int .i64 (if zbt l c.xs=true then 0 else 50)) (⟨⟨l_habit_step,l_habit_place,l_habit_sink⟩,l_sights,l_notes⟩:Life)))) :=
 zh (ps:=[_,_]) (caps:=[]) sh72 (e72 n (⟨⟨l_habit_step,l_habit_place,l_habit_sink⟩,l_sights,l_notes⟩:Life) c hc hl)
def badN (l:List Sight) (n:Note) (c:List Int) (k:Nat):Bool:=decide (n.kind=0)&&decide (n.fr<=l[k]!.year)&&decide (l[k+1]!.year<=n.to) && !decide (c[k]! = 0)
def hitN (l:List Sight) (n:Note) (c:List Int) (k:Nat):Bool:=decide (l[k]!.year<=n.to)&&decide (n.fr<=l[k+1]!.year)&&decide (c[k]! = n.kind)
def zao (l:List Sight) (n:Note) (c:List Int):Bool:=!zaz (badN l n c) c.length&&(zaz (hitN l n c) c.length||decide (n.kind=0))
theorem zcQ {l:List Sight} {n:Note} {c:List Int} {k:Nat} (h:k < c.length) (h1:k+1 < l.length):badN l n c k=(decide (n.kind=0)&&decide (n.fr<=l[k].year)&&decide (l[k+1].year<=n.to) && !decide (c[k]=0)):=by
 simp only [badN,getElem!_pos c k h,getElem!_pos l k (by omega),getElem!_pos l (k+1) h1]
theorem zfu {l:List Sight} {n:Note} {c:List Int} {k:Nat} (h:k < c.length) (h1:k+1 < l.length):hitN l n c k=(decide (l[k].year<=n.to)&&decide (n.fr<=l[k+1].year)&&decide (c[k]=n.kind)):=by
 simp only [hitN,getElem!_pos c k h,getElem!_pos l k (by omega),getElem!_pos l (k+1) h1]
theorem sh53:G.shared 53=false:=by decide
theorem e53 (n:Nat) (l:Life) (m:Note) (c:Sl Int) (hc:c.xs.length+1<=l.sights.xs.length) (hl:l.sights.xs.length < 1000):zD G (n+1) 53 [.agg l.cells,.agg m.cells,c.pv intF 1]=some (.bool (zao l.sights.xs m c.xs)):=by
 refine zo (zm _) rfl g53 rfl ?_
 (repeat' first|simp [*,zb,c53]|(apply za<;>intro _ h<;>try simp [-Nat.le_zero_eq] at h));have hP:Hide (zao l.sights.xs m c.xs=(!zaz (badN l.sights.xs m c.xs) c.xs.length&&(zaz (hitN l.sights.xs m c.xs) c.xs.length||decide (m.kind=0)))):=⟨rfl⟩
 generalize zao l.sights.xs m c.xs=P at *
 refine zF [(6,11),(14,70)] (fun (i:Nat) env H=>env 14=.pure (.int .i64 i)/\i<=c.xs.length/\env 7=.pure (.bool (zaz (hitN l.sights.xs m c.xs) i))/\Hide (zaz (badN l.sights.xs m c.xs) i=false)) (fun i=>c.xs.length - i) 0 ?_ ?_ ?_ ?_
 ·decide
 ·simp [zaz]
 ·simp only [zB];omega
 rintro i env H ⟨h14,hi,h7,hn⟩;have hfit:i < 9223372036854775807:=by omega
 have hi1:i < c.xs.length->i+1 < l.sights.xs.length:=fun h=>by omega
 have hi0:i < c.xs.length->i < l.sights.xs.length:=fun h=>by omega
 have bad:∀ h:i < c.xs.length,badN l.sights.xs m c.xs i=true->Hide (P=false):=fun h h1=>⟨by rw [hP.h,zf4 h h1];rfl⟩
 have good:∀ h:i < c.xs.length,badN l.sights.xs m c.xs i=false->Hide (zaz (badN l.sights.xs m c.xs) (i+1)=false):=fun h h1=>⟨by rw [zaz,hn.h,h1];rfl⟩
 have hst:∀ h:i < c.xs.length,zaz (hitN l.sights.xs m c.xs) (i+1)=(zaz (hitN l.sights.xs m c.xs) i||hitN l.sights.xs m c.xs i):=fun h=>rfl;generalize hsm:zaz (hitN l.sights.xs m c.xs) i=sm at *;(repeat' first|simp [*,zb]|(apply za<;>intro _ h<;>try simp [-Nat.le_zero_eq] at h))
 all_goals try (exact (bad (by assumption) (by first|(simp [zcQ, *];done)|(simp [zcQ, *];omega))).h)
 all_goals try (exact ⟨i+1,by omega,by simp,by omega,by first|(rw [hst (by assumption)];simp [zfu, *];done)|(rw [hst (by assumption)];simp [zfu, *];omega),good (by assumption) (by first|(simp [zcQ, *];done)|(simp [zcQ, *];omega))⟩)
 all_goals
  have:i=c.xs.length:=by omega
  subst this;rw [hP.h,hn.h,hsm];simp [*]
@[simp] theorem d53 (n:Nat) (H:Heap) (l_habit_step:Int) (l_habit_place:Int) (l_habit_sink:Int) (l_sights:Sl Sight) (l_notes:Sl Note) (m_id:Int) (m_kind:Int) (m_fr:Int) (m_to:Int) (c:Sl Int) (hc:(fun (l:Life)=>c.xs.length+1<=l.sights.xs.length) (⟨⟨l_habit_step,l_habit_place,l_habit_sink⟩,l_sights,l_notes⟩:Life)) (hl:(fun (l:Life)=>l.sights.xs.length < 1000) (⟨⟨l_habit_step,l_habit_place,l_habit_sink⟩,l_sights,l_notes⟩:Life)):zn (zg G (n+1)) H (.pure (.func 53 [])) [.pure (.agg [.int .i64 l_habit_step,.int .i64 l_habit_place,.int .i64 l_habit_sink,(l_sights).pv Sight.cells 9,(l_notes).pv Note.cells 4]),.pure (.agg [.int .i64 m_id,.int .i64 m_kind,.int .i64 m_fr,.int .i64 m_to]),.pure (c.pv intF 1)]=some (.val (.pure ((fun (l:Life)=>(fun (m:Note)=>.bool (zao l.sights.xs m c.xs)) (⟨m_id,m_kind,m_fr,m_to⟩:Note)) (⟨⟨l_habit_step,l_habit_place,l_habit_sink⟩,l_sights,l_notes⟩:Life)))) :=
 zh (ps:=[_,_,_]) (caps:=[]) sh53 (e53 n (⟨⟨l_habit_step,l_habit_place,l_habit_sink⟩,l_sights,l_notes⟩:Life) (⟨m_id,m_kind,m_fr,m_to⟩:Note) c hc hl)
theorem sh46:G.shared 46=false:=by decide
theorem e46 (n:Nat) (l:Life) (c:Sl Int) (m:Note) (hc:c.xs.length+1<=l.sights.xs.length) (hl:l.sights.xs.length < 1000):zD G (n+1) 46 [.agg l.cells,c.pv intF 1,.agg m.cells]=some (.bool (zao l.sights.xs m c.xs)):=by
 refine zo (zm _) rfl g46 rfl ?_
 (repeat' first|simp [*,zb,c46]|(apply za<;>intro _ h<;>try simp [-Nat.le_zero_eq] at h));have hP:Hide (zao l.sights.xs m c.xs=(!zaz (badN l.sights.xs m c.xs) c.xs.length&&(zaz (hitN l.sights.xs m c.xs) c.xs.length||decide (m.kind=0)))):=⟨rfl⟩
 generalize zao l.sights.xs m c.xs=P at *
 refine zF [(6,73)] (fun (i:Nat) env H=>env 8=.pure (.int .i64 i)/\i<=c.xs.length/\env 7=.pure (.bool (zaz (hitN l.sights.xs m c.xs) i))/\Hide (zaz (badN l.sights.xs m c.xs) i=false)) (fun i=>c.xs.length - i) 0 ?_ ?_ ?_ ?_
 ·decide
 ·simp [zaz]
 ·simp only [zB];omega
 rintro i env H ⟨h8,hi,h7,hn⟩;have hfit:i < 9223372036854775807:=by omega
 have hi1:i < c.xs.length->i+1 < l.sights.xs.length:=fun h=>by omega
 have hi0:i < c.xs.length->i < l.sights.xs.length:=fun h=>by omega
 have bad:∀ h:i < c.xs.length,badN l.sights.xs m c.xs i=true->Hide (P=false):=fun h h1=>⟨by rw [hP.h,zf4 h h1];rfl⟩
 have good:∀ h:i < c.xs.length,badN l.sights.xs m c.xs i=false->Hide (zaz (badN l.sights.xs m c.xs) (i+1)=false):=fun h h1=>⟨by rw [zaz,hn.h,h1];rfl⟩
 have hst:∀ h:i < c.xs.length,zaz (hitN l.sights.xs m c.xs) (i+1)=(zaz (hitN l.sights.xs m c.xs) i||hitN l.sights.xs m c.xs i):=fun h=>rfl;generalize hsm:zaz (hitN l.sights.xs m c.xs) i=sm at *;(repeat' first|simp [*,zb]|(apply za<;>intro _ h<;>try simp [-Nat.le_zero_eq] at h))
 all_goals try (exact (bad (by assumption) (by first|(simp [zcQ, *];done)|(simp [zcQ, *];omega))).h)
 all_goals try (exact ⟨i+1,by omega,by simp,by omega,by first|(rw [hst (by assumption)];simp [zfu, *];done)|(rw [hst (by assumption)];simp [zfu, *];omega),good (by assumption) (by first|(simp [zcQ, *];done)|(simp [zcQ, *];omega))⟩)
 all_goals
  have:i=c.xs.length:=by omega
  subst this;rw [hP.h,hn.h,hsm];simp [*]
@[simp] theorem d46 (n:Nat) (H:Heap) (l_habit_step:Int) (l_habit_place:Int) (l_habit_sink:Int) (l_sights:Sl Sight) (l_notes:Sl Note) (c:Sl Int) (m_id:Int) (m_kind:Int) (m_fr:Int) (m_to:Int) (hc:(fun (l:Life)=>c.xs.length+1<=l.sights.xs.length) (⟨⟨l_habit_step,l_habit_place,l_habit_sink⟩,l_sights,l_notes⟩:Life)) (hl:(fun (l:Life)=>l.sights.xs.length < 1000) (⟨⟨l_habit_step,l_habit_place,l_habit_sink⟩,l_sights,l_notes⟩:Life)):zn (zg G (n+1)) H (.pure (.func 46 [])) [.pure (.agg [.int .i64 l_habit_step,.int .i64 l_habit_place,.int .i64 l_habit_sink,(l_sights).pv Sight.cells 9,(l_notes).pv Note.cells 4]),.pure (c.pv intF 1),.pure (.agg [.int .i64 m_id,.int .i64 m_kind,.int .i64 m_fr,.int .i64 m_to])]=some (.val (.pure ((fun (l:Life)=>(fun (m:Note)=>.bool (zao l.sights.xs m c.xs)) (⟨m_id,m_kind,m_fr,m_to⟩:Note)) (⟨⟨l_habit_step,l_habit_place,l_habit_sink⟩,l_sights,l_notes⟩:Life)))) :=
 zh (ps:=[_,_,_]) (caps:=[]) sh46 (e46 n (⟨⟨l_habit_step,l_habit_place,l_habit_sink⟩,l_sights,l_notes⟩:Life) c (⟨m_id,m_kind,m_fr,m_to⟩:Note) hc hl)
def zad (a b:Span):Span:=⟨max a.lo b.lo,min a.hi b.hi⟩
def onD (d:Int) (s:Span):Span:=⟨s.lo - d,s.hi+d⟩
def okSp (s:Span):Prop:=-1048576<=s.lo/\s.lo<=1048576/\-1048576<=s.hi/\s.hi<=1048576
theorem zoU:G.shared 118=false:=by decide
theorem e118 (n:Nat) (a b:Span):zD G (n+1) 118 [.agg a.cells,.agg b.cells]=some (.agg (zad a b).cells):=by
 refine zo (zm _) rfl g118 rfl ?_
 (repeat' first|simp [*,zb,c118,zad]|(apply za<;>intro _ h<;>try simp [-Nat.le_zero_eq] at h))
@[simp] theorem d118 (n:Nat) (H:Heap) (a_lo:Int) (a_hi:Int) (b_lo:Int) (b_hi:Int):zn (zg G (n+1)) H (.pure (.func 118 [])) [.pure (.agg [.int .i64 a_lo,.int .i64 a_hi]),.pure (.agg [.int .i64 b_lo,.int .i64 b_hi])]=some (.val (.pure ((fun (a:Span)=>(fun (b:Span)=>.agg (zad a b).cells) (⟨b_lo,b_hi⟩:Span)) (⟨a_lo,a_hi⟩:Span)))) :=
 zh (ps:=[_,_]) (caps:=[]) zoU (e118 n (⟨a_lo,a_hi⟩:Span) (⟨b_lo,b_hi⟩:Span))
theorem zpf:G.shared 119=false:=by decide
theorem e119 (n:Nat) (s:Span):zD G (n+1) 119 [.agg s.cells]=some (.bool (decide (s.hi < s.lo))):=by
 refine zo (zm _) rfl g119 rfl ?_
 (repeat' first|simp [*,zb,c119]|(apply za<;>intro _ h<;>try simp [-Nat.le_zero_eq] at h))
@[simp] theorem d119 (n:Nat) (H:Heap) (s_lo:Int) (s_hi:Int):zn (zg G (n+1)) H (.pure (.func 119 [])) [.pure (.agg [.int .i64 s_lo,.int .i64 s_hi])]=some (.val (.pure ((fun (s:Span)=>.bool (decide (s.hi < s.lo))) (⟨s_lo,s_hi⟩:Span)))) :=
 zh (ps:=[_]) (caps:=[]) zpf (e119 n (⟨s_lo,s_hi⟩:Span))
theorem zoZ:G.shared 159=false:=by decide
theorem e159 (n:Nat) (s:Span) (y d:Int) (hs:okSp s) (hd:0<=d/\d<=1000000):zD G (n+1) 159 [.agg s.cells,.int .i64 y,.ptr false [.int .i64 d] 0]=some (.agg (onD d s).cells):=by
 refine zo (zm _) rfl g159 rfl ?_
 have h1:IntKind.i64.wrap (s.lo - d)=s.lo - d:=by unfold okSp at hs;exact wrap64 (by omega) (by omega)
 have h2:IntKind.i64.wrap (s.hi+d)=s.hi+d:=by unfold okSp at hs;exact wrap64 (by omega) (by omega)
 (repeat' first|simp [*,zb,c159,onD]|(apply za<;>intro _ h<;>try simp [-Nat.le_zero_eq] at h))
@[simp] theorem d159 (n:Nat) (H:Heap) (s_lo:Int) (s_hi:Int) (y:Int) (d:Int) (hs:(fun (s:Span)=>okSp s) (⟨s_lo,s_hi⟩:Span)) (hd:0<=d/\d<=1000000):zn (zg G (n+1)) H (.pure (.func 159 [.ptr false [.int .i64 d] 0])) [.pure (.agg [.int .i64 s_lo,.int .i64 s_hi]),.pure (.int .i64 y)]=some (.val (.pure ((fun (s:Span)=>.agg (onD d s).cells) (⟨s_lo,s_hi⟩:Span)))) :=
 zh (ps:=[_,_]) (caps:=[_]) zoZ (e159 n (⟨s_lo,s_hi⟩:Span) y d hs hd)
@[simp] def zcA (d:Int):List PV:=[.func 159 [.ptr false [.int .i64 d] 0],.func 159 [.ptr false [.int .i64 d] 0]]
theorem zpp:G.shared 146=false:=by decide
theorem e146 (n:Nat) (d:Int):zD G (n+1) 146 [.int .i64 d]=some (.agg (zcA d)):=by
 refine zo (zm _) rfl g146 rfl ?_
 (repeat' first|simp [*,zb,c146,zcA]|(apply za<;>intro _ h<;>try simp [-Nat.le_zero_eq] at h))
@[simp] theorem d146 (n:Nat) (H:Heap) (d:Int):zn (zg G (n+1)) H (.pure (.func 146 [])) [.pure (.int .i64 d)]=some (.val (.pure (.agg (zcA d)))) :=
 zh (ps:=[_]) (caps:=[]) zpp (e146 n d)
theorem zoD:G.shared 115=false:=by decide
theorem e115 (n:Nat) (h:Habit):zD G (n+2) 115 [.agg h.cells]=some (.agg (zcA 0)):=by
 refine zo (zm _) rfl g115 rfl ?_
 (repeat' first|simp [*,zb,c115]|(apply za<;>intro _ h<;>try simp [-Nat.le_zero_eq] at h))
@[simp] theorem d115 (n:Nat) (H:Heap) (h_step:Int) (h_place:Int) (h_sink:Int):zn (zg G (n+2)) H (.pure (.func 115 [])) [.pure (.agg [.int .i64 h_step,.int .i64 h_place,.int .i64 h_sink])]=some (.val (.pure (.agg (zcA 0)))) :=
 zh (ps:=[_]) (caps:=[]) zoD (e115 n (⟨h_step,h_place,h_sink⟩:Habit))
theorem zoR:G.shared 116=false:=by decide
theorem e116 (n:Nat) (h:Habit):zD G (n+2) 116 [.agg h.cells]=some (.agg (zcA h.step)):=by
 refine zo (zm _) rfl g116 rfl ?_
 (repeat' first|simp [*,zb,c116]|(apply za<;>intro _ h<;>try simp [-Nat.le_zero_eq] at h))
@[simp] theorem d116 (n:Nat) (H:Heap) (h_step:Int) (h_place:Int) (h_sink:Int):zn (zg G (n+2)) H (.pure (.func 116 [])) [.pure (.agg [.int .i64 h_step,.int .i64 h_place,.int .i64 h_sink])]=some (.val (.pure ((fun (h:Habit)=>.agg (zcA h.step)) (⟨h_step,h_place,h_sink⟩:Habit)))) :=
 zh (ps:=[_]) (caps:=[]) zoR (e116 n (⟨h_step,h_place,h_sink⟩:Habit))
theorem zpk:G.shared 117=false:=by decide
theorem e117 (n:Nat) (h:Habit):zD G (n+2) 117 [.agg h.cells]=some (.agg (zcA h.place)):=by
 refine zo (zm _) rfl g117 rfl ?_
 (repeat' first|simp [*,zb,c117]|(apply za<;>intro _ h<;>try simp [-Nat.le_zero_eq] at h))
@[simp] theorem d117 (n:Nat) (H:Heap) (h_step:Int) (h_place:Int) (h_sink:Int):zn (zg G (n+2)) H (.pure (.func 117 [])) [.pure (.agg [.int .i64 h_step,.int .i64 h_place,.int .i64 h_sink])]=some (.val (.pure ((fun (h:Habit)=>.agg (zcA h.place)) (⟨h_step,h_place,h_sink⟩:Habit)))) :=
 zh (ps:=[_]) (caps:=[]) zpk (e117 n (⟨h_step,h_place,h_sink⟩:Habit))
theorem sh85:G.shared 85=false:=by decide
theorem e85 (n:Nat) :zD G (n+1) 85 []=some (.agg [.func 115 [],.func 116 [],.func 117 []]):=by
 refine zo (zm _) rfl g85 rfl ?_
 (repeat' first|simp [*,zb,c85]|(apply za<;>intro _ h<;>try simp [-Nat.le_zero_eq] at h))
@[simp] theorem d85 (n:Nat) (H:Heap) :zn (zg G (n+1)) H (.pure (.func 85 [])) []=some (.val (.pure (.agg [.func 115 [],.func 116 [],.func 117 []]))) :=
 zh (ps:=[]) (caps:=[]) sh85 (e85 n )
def farD (h:Habit) (k:Int):Int:=if k=1 then h.step else if k=2 then h.place else 0
theorem sh74:G.shared 74=false:=by decide
theorem e74 (n:Nat) (l:Life) (k:Int):zD G (n+1) 74 [.agg l.cells,.int .i64 k]=some (.int .i64 (farD l.habit k)):=by
 refine zo (zm _) rfl g74 rfl ?_
 (repeat' first|simp [*,zb,c74,farD]|(apply za<;>intro _ h<;>try simp [-Nat.le_zero_eq] at h))
@[simp] theorem d74 (n:Nat) (H:Heap) (l_habit_step:Int) (l_habit_place:Int) (l_habit_sink:Int) (l_sights:Sl Sight) (l_notes:Sl Note) (k:Int):zn (zg G (n+1)) H (.pure (.func 74 [])) [.pure (.agg [.int .i64 l_habit_step,.int .i64 l_habit_place,.int .i64 l_habit_sink,(l_sights).pv Sight.cells 9,(l_notes).pv Note.cells 4]),.pure (.int .i64 k)]=some (.val (.pure ((fun (l:Life)=>.int .i64 (farD l.habit k)) (⟨⟨l_habit_step,l_habit_place,l_habit_sink⟩,l_sights,l_notes⟩:Life)))) :=
 zh (ps:=[_,_]) (caps:=[]) sh74 (e74 n (⟨⟨l_habit_step,l_habit_place,l_habit_sink⟩,l_sights,l_notes⟩:Life) k)
theorem sh75:G.shared 75=false:=by decide
theorem e75 (n:Nat) (s t:Span) (d:Int) (hs:okSp t) (hd:0<=d/\d<=1000000):zD G (n+1) 75 [.agg s.cells,.agg t.cells,.int .i64 d]=some (.agg (zad s (onD d t)).cells):=by
 refine zo (zm _) rfl g75 rfl ?_
 have h1:IntKind.i64.wrap (t.lo - d)=t.lo - d:=by unfold okSp at hs;exact wrap64 (by omega) (by omega)
 have h2:IntKind.i64.wrap (t.hi+d)=t.hi+d:=by unfold okSp at hs;exact wrap64 (by omega) (by omega)
 (repeat' first|simp [*,zb,c75,onD,zad]|(apply za<;>intro _ h<;>try simp [-Nat.le_zero_eq] at h))
@[simp] theorem d75 (n:Nat) (H:Heap) (s_lo:Int) (s_hi:Int) (t_lo:Int) (t_hi:Int) (d:Int) (hs:(fun (t:Span)=>okSp t) (⟨t_lo,t_hi⟩:Span)) (hd:0<=d/\d<=1000000):zn (zg G (n+1)) H (.pure (.func 75 [])) [.pure (.agg [.int .i64 s_lo,.int .i64 s_hi]),.pure (.agg [.int .i64 t_lo,.int .i64 t_hi]),.pure (.int .i64 d)]=some (.val (.pure ((fun (s:Span)=>(fun (t:Span)=>.agg (zad s (onD d t)).cells) (⟨t_lo,t_hi⟩:Span)) (⟨s_lo,s_hi⟩:Span)))) :=
 zh (ps:=[_,_,_]) (caps:=[]) sh75 (e75 n (⟨s_lo,s_hi⟩:Span) (⟨t_lo,t_hi⟩:Span) d hs hd)
theorem sh84:G.shared 84=false:=by decide
theorem e84 (n:Nat) (l:Life) (c:Sl Int) (k:Nat) (hk:k < c.xs.length) (h0:0<=c.xs[k]! /\ c.xs[k]! <= 2):zD G (n+3) 84 [.int .i64 (k:Nat),.ptr false [c.pv intF 1] 0,.ptr false l.cells 0]=some (.agg (zcA (farD l.habit c.xs[k]!))):=by
 refine zo (zm _) rfl g84 rfl ?_
 rw [getElem!_pos c.xs k hk] at h0 ⊢;have h3:c.xs[k]=0\/c.xs[k]=1\/c.xs[k]=2:=by omega
 rcases h3 with h3|h3|h3
 ·(repeat' first|simp [*,zb,c84,farD]|(apply za<;>intro _ h<;>try simp [-Nat.le_zero_eq] at h))
 ·(repeat' first|simp [*,zb,c84,farD]|(apply za<;>intro _ h<;>try simp [-Nat.le_zero_eq] at h))
 ·(repeat' first|simp [*,zb,c84,farD]|(apply za<;>intro _ h<;>try simp [-Nat.le_zero_eq] at h))
@[simp] theorem d84 (n:Nat) (H:Heap) (l_habit_step:Int) (l_habit_place:Int) (l_habit_sink:Int) (l_sights:Sl Sight) (l_notes:Sl Note) (c:Sl Int) (k:Nat) (hk:k < c.xs.length) (h0:0<=c.xs[k]! /\ c.xs[k]! <= 2):zn (zg G (n+3)) H (.pure (.func 84 [.ptr false [c.pv intF 1] 0,.ptr false [.int .i64 l_habit_step,.int .i64 l_habit_place,.int .i64 l_habit_sink,(l_sights).pv Sight.cells 9,(l_notes).pv Note.cells 4] 0])) [.pure (.int .i64 (k:Nat))]=some (.val (.pure ((fun (l:Life)=>.agg (zcA (farD l.habit c.xs[k]!))) (⟨⟨l_habit_step,l_habit_place,l_habit_sink⟩,l_sights,l_notes⟩:Life)))) :=
 zh (ps:=[_]) (caps:=[_,_]) sh84 (e84 n (⟨⟨l_habit_step,l_habit_place,l_habit_sink⟩,l_sights,l_notes⟩:Life) c k hk h0)
theorem sh87:G.shared 87=false:=by decide
theorem e87 (n:Nat) (s:Sight):zD G (n+1) 87 [.agg s.cells]=some (.agg s.box.x.cells):=by
 refine zo (zm _) rfl g87 rfl ?_
 (repeat' first|simp [*,zb,c87]|(apply za<;>intro _ h<;>try simp [-Nat.le_zero_eq] at h))
@[simp] theorem d87 (n:Nat) (H:Heap) (s_id:Int) (s_year:Int) (s_box_x_lo:Int) (s_box_x_hi:Int) (s_box_y_lo:Int) (s_box_y_hi:Int) (s_letters:List UInt8) (s_height_lo:Int) (s_height_hi:Int):zn (zg G (n+1)) H (.pure (.func 87 [])) [.pure (.agg [.int .i64 s_id,.int .i64 s_year,.int .i64 s_box_x_lo,.int .i64 s_box_x_hi,.int .i64 s_box_y_lo,.int .i64 s_box_y_hi,.str ⟨(s_letters).toArray⟩,.int .i64 s_height_lo,.int .i64 s_height_hi])]=some (.val (.pure ((fun (s:Sight)=>.agg s.box.x.cells) (⟨s_id,s_year,⟨⟨s_box_x_lo,s_box_x_hi⟩,⟨s_box_y_lo,s_box_y_hi⟩⟩,s_letters,⟨s_height_lo,s_height_hi⟩⟩:Sight)))) :=
 zh (ps:=[_]) (caps:=[]) sh87 (e87 n (⟨s_id,s_year,⟨⟨s_box_x_lo,s_box_x_hi⟩,⟨s_box_y_lo,s_box_y_hi⟩⟩,s_letters,⟨s_height_lo,s_height_hi⟩⟩:Sight))
theorem sh88:G.shared 88=false:=by decide
theorem e88 (n:Nat) (s:Sight):zD G (n+1) 88 [.agg s.cells]=some (.agg s.box.y.cells):=by
 refine zo (zm _) rfl g88 rfl ?_
 (repeat' first|simp [*,zb,c88]|(apply za<;>intro _ h<;>try simp [-Nat.le_zero_eq] at h))
@[simp] theorem d88 (n:Nat) (H:Heap) (s_id:Int) (s_year:Int) (s_box_x_lo:Int) (s_box_x_hi:Int) (s_box_y_lo:Int) (s_box_y_hi:Int) (s_letters:List UInt8) (s_height_lo:Int) (s_height_hi:Int):zn (zg G (n+1)) H (.pure (.func 88 [])) [.pure (.agg [.int .i64 s_id,.int .i64 s_year,.int .i64 s_box_x_lo,.int .i64 s_box_x_hi,.int .i64 s_box_y_lo,.int .i64 s_box_y_hi,.str ⟨(s_letters).toArray⟩,.int .i64 s_height_lo,.int .i64 s_height_hi])]=some (.val (.pure ((fun (s:Sight)=>.agg s.box.y.cells) (⟨s_id,s_year,⟨⟨s_box_x_lo,s_box_x_hi⟩,⟨s_box_y_lo,s_box_y_hi⟩⟩,s_letters,⟨s_height_lo,s_height_hi⟩⟩:Sight)))) :=
 zh (ps:=[_]) (caps:=[]) sh88 (e88 n (⟨s_id,s_year,⟨⟨s_box_x_lo,s_box_x_hi⟩,⟨s_box_y_lo,s_box_y_hi⟩⟩,s_letters,⟨s_height_lo,s_height_hi⟩⟩:Sight))
theorem sh89:G.shared 89=false:=by decide
theorem e89 (n:Nat) (s:Sight):zD G (n+1) 89 [.agg s.cells]=some (.agg s.height.cells):=by
 refine zo (zm _) rfl g89 rfl ?_
 (repeat' first|simp [*,zb,c89]|(apply za<;>intro _ h<;>try simp [-Nat.le_zero_eq] at h))
@[simp] theorem d89 (n:Nat) (H:Heap) (s_id:Int) (s_year:Int) (s_box_x_lo:Int) (s_box_x_hi:Int) (s_box_y_lo:Int) (s_box_y_hi:Int) (s_letters:List UInt8) (s_height_lo:Int) (s_height_hi:Int):zn (zg G (n+1)) H (.pure (.func 89 [])) [.pure (.agg [.int .i64 s_id,.int .i64 s_year,.int .i64 s_box_x_lo,.int .i64 s_box_x_hi,.int .i64 s_box_y_lo,.int .i64 s_box_y_hi,.str ⟨(s_letters).toArray⟩,.int .i64 s_height_lo,.int .i64 s_height_hi])]=some (.val (.pure ((fun (s:Sight)=>.agg s.height.cells) (⟨s_id,s_year,⟨⟨s_box_x_lo,s_box_x_hi⟩,⟨s_box_y_lo,s_box_y_hi⟩⟩,s_letters,⟨s_height_lo,s_height_hi⟩⟩:Sight)))) :=
 zh (ps:=[_]) (caps:=[]) sh89 (e89 n (⟨s_id,s_year,⟨⟨s_box_x_lo,s_box_x_hi⟩,⟨s_box_y_lo,s_box_y_hi⟩⟩,s_letters,⟨s_height_lo,s_height_hi⟩⟩:Sight))
def upH (h:Habit) (k y:Int) (s:Span):Span:=if k=0 then ⟨s.lo - h.sink*y,s.hi⟩ else ⟨0,100⟩
def zcF (h:Habit) (k y:Int) (s:Span):Span:=if k=0 then ⟨s.lo,s.hi+h.sink*y⟩ else ⟨0,100⟩
def hPtr (h:Habit):PV:=.ptr false h.cells 0
def upF (h:Habit) (k:Int):PV:=if k=0 then .func 121 [hPtr h] else .func 120 []
def zdC (h:Habit) (k:Int):PV:=if k=0 then .func 122 [hPtr h] else .func 120 []
@[simp] theorem zpA (h:Habit) (k:Int):AV.one (.pure (upF h k))=true:=by unfold upF;split<;>rfl
@[simp] theorem zow (h:Habit) (k:Int):AV.one (.pure (zdC h k))=true:=by unfold zdC;split<;>rfl
@[simp] theorem zkV (h:Habit) (k:Int):AV.cells (.pure (upF h k))=[.pure (upF h k)]:=by unfold upF;split<;>rfl
@[simp] theorem ziC (h:Habit) (k:Int):AV.cells (.pure (zdC h k))=[.pure (zdC h k)]:=by unfold zdC;split<;>rfl
theorem zo2:G.shared 120=false:=by decide
theorem e120 (n:Nat) (s:Span) (y:Int):zD G (n+1) 120 [.agg s.cells,.int .i64 y]=some (.agg [.int .i64 0,.int .i64 100]):=by
 refine zo (zm _) rfl g120 rfl ?_
 (repeat' first|simp [*,zb,c120]|(apply za<;>intro _ h<;>try simp [-Nat.le_zero_eq] at h))
@[simp] theorem d120 (n:Nat) (H:Heap) (s_lo:Int) (s_hi:Int) (y:Int):zn (zg G (n+1)) H (.pure (.func 120 [])) [.pure (.agg [.int .i64 s_lo,.int .i64 s_hi]),.pure (.int .i64 y)]=some (.val (.pure (.agg [.int .i64 0,.int .i64 100]))) :=
 zh (ps:=[_,_]) (caps:=[]) zo2 (e120 n (⟨s_lo,s_hi⟩:Span) y)
theorem zdw {h:Habit} {y:Int} (hh:zbq h=true) (hy:0<=y/\y<=4000):0<=h.sink*y/\h.sink*y<=80000:=by
 simp [zbq,inB] at hh
 refine ⟨Int.mul_nonneg (by omega) hy.1,?_⟩
 have:h.sink*y<=20*4000:=Int.mul_le_mul (by omega) hy.2 hy.1 (by omega);omega
theorem zoN:G.shared 121=false:=by decide
theorem e121 (n:Nat) (s:Span) (y:Int) (h:Habit) (hs:okSp s) (hh:zbq h=true) (hy:0<=y/\y<=4000):zD G (n+1) 121 [.agg s.cells,.int .i64 y,.ptr false h.cells 0]=some (.agg (upH h 0 y s).cells):=by
 refine zo (zm _) rfl g121 rfl ?_
 have h9:=zdw hh hy;have h1:IntKind.i64.wrap (h.sink*y)=h.sink*y:=wrap64 (by omega) (by omega);have h2:IntKind.i64.wrap (s.lo - h.sink*y)=s.lo - h.sink*y:=by unfold okSp at hs;exact wrap64 (by omega) (by omega)
 (repeat' first|simp [*,zb,c121,upH]|(apply za<;>intro _ h<;>try simp [-Nat.le_zero_eq] at h))
@[simp] theorem d121 (n:Nat) (H:Heap) (s_lo:Int) (s_hi:Int) (y:Int) (h_step:Int) (h_place:Int) (h_sink:Int) (hs:(fun (s:Span)=>okSp s) (⟨s_lo,s_hi⟩:Span)) (hh:(fun (h:Habit)=>zbq h=true) (⟨h_step,h_place,h_sink⟩:Habit)) (hy:0<=y/\y<=4000):zn (zg G (n+1)) H (.pure (.func 121 [.ptr false [.int .i64 h_step,.int .i64 h_place,.int .i64 h_sink] 0])) [.pure (.agg [.int .i64 s_lo,.int .i64 s_hi]),.pure (.int .i64 y)]=some (.val (.pure ((fun (s:Span)=>(fun (h:Habit)=>.agg (upH h 0 y s).cells) (⟨h_step,h_place,h_sink⟩:Habit)) (⟨s_lo,s_hi⟩:Span)))) :=
 zh (ps:=[_,_]) (caps:=[_]) zoN (e121 n (⟨s_lo,s_hi⟩:Span) y (⟨h_step,h_place,h_sink⟩:Habit) hs hh hy)
theorem zoW:G.shared 122=false:=by decide
theorem e122 (n:Nat) (s:Span) (y:Int) (h:Habit) (hs:okSp s) (hh:zbq h=true) (hy:0<=y/\y<=4000):zD G (n+1) 122 [.agg s.cells,.int .i64 y,.ptr false h.cells 0]=some (.agg (zcF h 0 y s).cells):=by
 refine zo (zm _) rfl g122 rfl ?_
 have h9:=zdw hh hy;have h1:IntKind.i64.wrap (h.sink*y)=h.sink*y:=wrap64 (by omega) (by omega);have h2:IntKind.i64.wrap (s.hi+h.sink*y)=s.hi+h.sink*y:=by unfold okSp at hs;exact wrap64 (by omega) (by omega)
 (repeat' first|simp [*,zb,c122,zcF]|(apply za<;>intro _ h<;>try simp [-Nat.le_zero_eq] at h))
@[simp] theorem d122 (n:Nat) (H:Heap) (s_lo:Int) (s_hi:Int) (y:Int) (h_step:Int) (h_place:Int) (h_sink:Int) (hs:(fun (s:Span)=>okSp s) (⟨s_lo,s_hi⟩:Span)) (hh:(fun (h:Habit)=>zbq h=true) (⟨h_step,h_place,h_sink⟩:Habit)) (hy:0<=y/\y<=4000):zn (zg G (n+1)) H (.pure (.func 122 [.ptr false [.int .i64 h_step,.int .i64 h_place,.int .i64 h_sink] 0])) [.pure (.agg [.int .i64 s_lo,.int .i64 s_hi]),.pure (.int .i64 y)]=some (.val (.pure ((fun (s:Span)=>(fun (h:Habit)=>.agg (zcF h 0 y s).cells) (⟨h_step,h_place,h_sink⟩:Habit)) (⟨s_lo,s_hi⟩:Span)))) :=
 zh (ps:=[_,_]) (caps:=[_]) zoW (e122 n (⟨s_lo,s_hi⟩:Span) y (⟨h_step,h_place,h_sink⟩:Habit) hs hh hy)
theorem sh91:G.shared 91=false:=by decide
theorem e91 (n:Nat) (h:Habit) (k:Int):zD G (n+1) 91 [.agg h.cells,.int .i64 k]=some (.agg [upF h k,zdC h k]):=by
 refine zo (zm _) rfl g91 rfl ?_
 (repeat' first|simp [*,zb,c91,upF,zdC,hPtr]|(apply za<;>intro _ h<;>try simp [-Nat.le_zero_eq] at h))
@[simp] theorem d91 (n:Nat) (H:Heap) (h_step:Int) (h_place:Int) (h_sink:Int) (k:Int):zn (zg G (n+1)) H (.pure (.func 91 [])) [.pure (.agg [.int .i64 h_step,.int .i64 h_place,.int .i64 h_sink]),.pure (.int .i64 k)]=some (.val (.pure ((fun (h:Habit)=>.agg [upF h k,zdC h k]) (⟨h_step,h_place,h_sink⟩:Habit)))) :=
 zh (ps:=[_,_]) (caps:=[]) sh91 (e91 n (⟨h_step,h_place,h_sink⟩:Habit) k)
theorem sh90:G.shared 90=false:=by decide
theorem e90 (n:Nat) (l:Life) (c:Sl Int) (k:Nat) (hk:k < c.xs.length):zD G (n+2) 90 [.int .i64 (k:Nat),.ptr false l.cells 0,.ptr false [c.pv intF 1] 0]=some (.agg [upF l.habit c.xs[k]!,zdC l.habit c.xs[k]!]):=by
 refine zo (zm _) rfl g90 rfl ?_
 rw [getElem!_pos c.xs k hk];(repeat' first|simp [*,zb,c90]|(apply za<;>intro _ h<;>try simp [-Nat.le_zero_eq] at h))
@[simp] theorem d90 (n:Nat) (H:Heap) (l_habit_step:Int) (l_habit_place:Int) (l_habit_sink:Int) (l_sights:Sl Sight) (l_notes:Sl Note) (c:Sl Int) (k:Nat) (hk:k < c.xs.length):zn (zg G (n+2)) H (.pure (.func 90 [.ptr false [.int .i64 l_habit_step,.int .i64 l_habit_place,.int .i64 l_habit_sink,(l_sights).pv Sight.cells 9,(l_notes).pv Note.cells 4] 0,.ptr false [c.pv intF 1] 0])) [.pure (.int .i64 (k:Nat))]=some (.val (.pure ((fun (l:Life)=>.agg [upF l.habit c.xs[k]!,zdC l.habit c.xs[k]!]) (⟨⟨l_habit_step,l_habit_place,l_habit_sink⟩,l_sights,l_notes⟩:Life)))) :=
 zh (ps:=[_]) (caps:=[_,_]) sh90 (e90 n (⟨⟨l_habit_step,l_habit_place,l_habit_sink⟩,l_sights,l_notes⟩:Life) c k hk)
def zb8 (l:List Span):Bool:=allL (fun s=>!decide (s.hi < s.lo)) l
theorem sh73:G.shared 73=false:=by decide
theorem e73 (n:Nat) (l:Sl Span) (hl:l.xs.length < 1000):zD G (n+1) 73 [l.pv Span.cells 2]=some (.bool (zb8 l.xs)):=by
 refine zo (zm _) rfl g73 rfl ?_
 (repeat' first|simp [*,zb,c73]|(apply za<;>intro _ h<;>try simp [-Nat.le_zero_eq] at h));have hP:Hide (zb8 l.xs=allL (fun s=>!decide (s.hi < s.lo)) l.xs):=⟨rfl⟩
 generalize zb8 l.xs=P at *
 refine zF [(2,20)] (fun (i:Nat) env H=>env 3=.pure (.int .i64 i)/\i<=l.xs.length/\Hide (P=allL (fun s=>!decide (s.hi < s.lo)) (l.xs.drop i))) (fun i=>l.xs.length - i) 0 ?_ ?_ ?_ ?_
 ·decide
 ·simp;exact hP
 ·simp only [zB];omega
 rintro i env H ⟨h3,hi,hn⟩;have hfit:i < 9223372036854775807:=by omega
 (repeat' first|simp [*,zb]|(apply za<;>intro _ h<;>try simp [-Nat.le_zero_eq] at h))
 all_goals try (rw [hn.h,zaF (by assumption)];simp [*];done)
 all_goals try (refine ⟨i+1,by omega,by simp,by omega,⟨?_⟩⟩;rw [hn.h,zaF (by assumption)];simp [*];done)
 rw [hn.h,zc2 (by omega)]
@[simp] theorem d73 (n:Nat) (H:Heap) (l:Sl Span) (hl:l.xs.length < 1000):zn (zg G (n+1)) H (.pure (.func 73 [])) [.pure (l.pv Span.cells 2)]=some (.val (.pure (.bool (zb8 l.xs)))) :=
 zh (ps:=[_]) (caps:=[]) sh73 (e73 n l hl)
def zbF (s:Span):Prop:=s.lo<=1048576/\-1048576<=s.hi
theorem zch {a b:Span} (ha:okSp a) (hb:zbF b):okSp (zad a b):=by
 unfold okSp zbF zad at *;simp only;omega
def zd0 (on:Nat->Span->Span) (k:Nat) (p:Option Span) (s:Span):Span:=match p with
 | none=>s
 | some q=>zad s (on (k-1) q)
def fwdS (on:Nat->Span->Span):Nat->Option Span->List Span->Option (List Span)
 | _,_,[]=>some []
 | k,p,s::r=>if (zd0 on k p s).hi < (zd0 on k p s).lo then none else (fwdS on (k+1) (some (zd0 on k p s)) r).map (zd0 on k p s :: ·)
def bwdS (back:Nat->Span->Span):Nat->List Span->List Span
 | _,[]=>[]
 | k,s::r=>match bwdS back (k+1) r with
  | []=>[s]
  | t::r'=>zad s (back k t)::t::r'
def zc7:Option (List Span)->PV
 | none=>.tup [.nils,.bool false]
 | some l=>.tup [(Sl.of l).pv Span.cells 2,.bool true]
def zaH (on back:Nat->Span->Span) (l:List Span):Option (List Span):=(fwdS on 0 none l).map (bwdS back 0)
theorem zhg {on:Nat->Span->Span} {k:Nat} {p:Option Span} {l:List Span} (hk:k < l.length) {t:Span} (ht:t=zd0 on k p l[k]) :
  fwdS on k p (l.drop k)=if t.hi < t.lo then none else (fwdS on (k+1) (some t) (l.drop (k+1))).map (t :: ·):=by
 rw [List.drop_eq_getElem_cons hk,fwdS,<- ht]
theorem zav (back:Nat->Span->Span):∀ (l:List Span) (k:Nat),(bwdS back k l).length=l.length
 | [],k=>rfl
 | s::r,k=>by
  have:=zav back r (k+1);rw [bwdS]
  cases h:bwdS back (k+1) r with
  | nil=>rw [h] at this;simp at this;simp [<- this]
  | cons t r'=>rw [h] at this;simp at this ⊢;exact this
theorem zg3 {back:Nat->Span->Span} {l:List Span} {j:Nat} (hj:j+1 < l.length) :
  bwdS back j (l.drop j)=zad l[j] (back j ((bwdS back (j+1) (l.drop (j+1)))[0]'(by rw [zav];simp;omega)))::bwdS back (j+1) (l.drop (j+1)):=by
 rw [List.drop_eq_getElem_cons (by omega),bwdS];have hlen:=zav back (l.drop (j+1)) (j+1);obtain ⟨t,r',h⟩:∃ t r',bwdS back (j+1) (l.drop (j+1))=t::r':=by
  cases h:bwdS back (j+1) (l.drop (j+1)) with
  | nil=>rw [h] at hlen;simp at hlen;omega
  | cons t r'=>exact ⟨t,r',rfl⟩
 simp [h]
theorem zg0 {back:Nat->Span->Span} {l:List Span} {j:Nat} (hj:j+1=l.length):bwdS back j (l.drop j)=l.drop j:=by
 rw [List.drop_eq_getElem_cons (by omega),List.drop_eq_nil_of_le (by omega)];rfl
theorem zlW {on:Nat->Span->Span} {out l:List Span} {t:Span} (hk:out.length < l.length) (ht:t=zd0 on out.length out.getLast? l[out.length])
  (hn:fwdS on 0 none l=(fwdS on out.length out.getLast? (l.drop out.length)).map (out ++ ·)) :
  (t.hi < t.lo->fwdS on 0 none l=none)/\(¬ t.hi < t.lo->fwdS on 0 none l=(fwdS on (out++[t]).length (out++[t]).getLast? (l.drop (out++[t]).length)).map ((out++[t]) ++ ·)):=by
 rw [zhg hk ht] at hn
 constructor
 ·intro h;rw [hn,if_pos h];rfl
 ·intro h;rw [hn,if_neg h];simp [Function.comp_def]
theorem zmc {back:Nat->Span->Span} (hw:∀ k t,okSp t->zbF (back k t)):∀ (l:List Span) (k:Nat),(∀ s∈l,okSp s)->∀ s∈bwdS back k l,okSp s
 | [],k,_=>by simp [bwdS]
 | a::r,k,h=>by
  have ih:=zmc hw r (k+1) (fun s hs=>h s (by simp [hs]));rw [bwdS]
  cases hb:bwdS back (k+1) r with
  | nil=>intro s hs;simp at hs;subst hs;exact h _ (by simp)
  | cons t r' =>
   rw [hb] at ih;intro s hs;rcases List.mem_cons.1 hs with rfl|hs
   ·exact zch (h a (by simp)) (hw _ _ (ih t (by simp)))
   ·exact ih s hs
theorem zec (n:Nat) (l:Life) (of gap:PV) (ofF:Sight->Span) (on back:Nat->Span->Span) (g1 g2:Nat->PV) (yr:Nat->Int)
  (h1:1<=l.sights.xs.length) (h9:l.sights.xs.length<=9)
  (hofs:∀ s∈l.sights.xs,okSp (ofF s))
  (hw1:∀ k t,okSp t->zbF (on k t)) (hw2:∀ k t,okSp t->zbF (back k t))
  (hyr:∀ k (h:k+1 < l.sights.xs.length),IntKind.i64.wrap (l.sights.xs[k+1].year - l.sights.xs[k].year)=yr k)
  (hof:∀ H s,zn (zg G (n+5)) H (.pure of) [.pure (.agg (Sight.cells s))]=some (.val (.pure (.agg (ofF s).cells))))
  (hgap:∀ H (k:Nat),k+1 < l.sights.xs.length->zn (zg G (n+5)) H (.pure gap) [.pure (.int .i64 k)]=some (.val (.pure (.agg [g1 k,g2 k]))))
  (hon:∀ H (k:Nat) s,k+1 < l.sights.xs.length->okSp s->zn (zg G (n+5)) H (.pure (g1 k)) [.pure (.agg (Span.cells s)),.pure (.int .i64 (yr k))]=some (.val (.pure (.agg (on k s).cells))))
  (hbk:∀ H (k:Nat) s,k+1 < l.sights.xs.length->okSp s->zn (zg G (n+5)) H (.pure (g2 k)) [.pure (.agg (Span.cells s)),.pure (.int .i64 (yr k))]=some (.val (.pure (.agg (back k s).cells)))) 
  (hc1:∀ k,AV.cells (.pure (g1 k))=[.pure (g1 k)]) (hc2:∀ k,AV.cells (.pure (g2 k))=[.pure (g2 k)]) :
  zD G (n+6) 86 [.agg l.cells,l.sights.pv Sight.cells 9,of,gap]=some (zc7 (zaH on back (l.sights.xs.map ofF))):=by
 have hon':∀ H (k:Nat) lo hi,k+1 < l.sights.xs.length->okSp ⟨lo,hi⟩->zn (zg G (n+5)) H (.pure (g1 k)) [.pure (.agg [.int .i64 lo,.int .i64 hi]),.pure (.int .i64 (yr k))]=some (.val (.pure (.agg [.int .i64 (on k ⟨lo,hi⟩).lo,.int .i64 (on k ⟨lo,hi⟩).hi]))):=fun H k lo hi h h'=>hon H k ⟨lo,hi⟩ h h';have hbk':∀ H (k:Nat) lo hi,k+1 < l.sights.xs.length->okSp ⟨lo,hi⟩->zn (zg G (n+5)) H (.pure (g2 k)) [.pure (.agg [.int .i64 lo,.int .i64 hi]),.pure (.int .i64 (yr k))]=some (.val (.pure (.agg [.int .i64 (back k ⟨lo,hi⟩).lo,.int .i64 (back k ⟨lo,hi⟩).hi]))):=fun H k lo hi h h'=>hbk H k ⟨lo,hi⟩ h h';have hof':∀ H (a b c d e f:Int) (g:List UInt8) (i j:Int),zn (zg G (n+5)) H (.pure of) [.pure (.agg [.int .i64 a,.int .i64 b,.int .i64 c,.int .i64 d,.int .i64 e,.int .i64 f,.str ⟨g.toArray⟩,.int .i64 i,.int .i64 j])]=some (.val (.pure (.agg [.int .i64 (ofF ⟨a,b,⟨⟨c,d⟩,⟨e,f⟩⟩,g,⟨i,j⟩⟩).lo,.int .i64 (ofF ⟨a,b,⟨⟨c,d⟩,⟨e,f⟩⟩,g,⟨i,j⟩⟩).hi]))):=fun H a b c d e f g i j=>hof H ⟨a,b,⟨⟨c,d⟩,⟨e,f⟩⟩,g,⟨i,j⟩⟩;clear hon hbk hof
 refine zo (zm _) rfl g86 rfl ?_
 have hP:Hide (zc7 (zaH on back (l.sights.xs.map ofF))=zc7 ((fwdS on 0 none (l.sights.xs.map ofF)).map (bwdS back 0))):=⟨rfl⟩
 generalize zc7 (zaH on back (l.sights.xs.map ofF))=P at *;(repeat' first|simp [*,zb,c86]|(apply za<;>intro _ h<;>try simp [-Nat.le_zero_eq] at h)|(show wpE 0 (zl ..) ..;refine zw ?_)|(refine zi fun v2 H2 hv2 hnx2 hget2 hnew2 hone2 hcel2=>?_))
 refine zF [(8,13),(17,60)] (fun (out:List Span) env H=>env 17=.pure (.int .i64 out.length)/\out.length<=l.sights.xs.length/\GrowV Span.cells 2 H (env 10) out/\(∀ s∈out,okSp s) /\
   Hide (fwdS on 0 none (l.sights.xs.map ofF)=(fwdS on out.length out.getLast? ((l.sights.xs.map ofF).drop out.length)).map (out ++ ·))) (fun out=>l.sights.xs.length - out.length) [] ?_ ?_ ?_ ?_
 ·decide
 ·simp [GrowV.nil]
 ·simp only [zB];simp;omega
 rintro out env H ⟨h17,hi,hg,hok,hn⟩;have hfit:out.length < 9223372036854775807:=by omega
 have ha:∀ k i,i < out.length->zda 2 (env 10) (.pure (.int k (i:Nat)))=some (.val (.box (idOf (env 10)) (i*2))):=fun k i h=>hg.1.addr h;have hob:0 < out.length->H.get (idOf (env 10))=.cells true (zx Span.cells out):=fun h=>hg.1.objI h;have hlt:0 < out.length->idOf (env 10) < H.nx:=fun h=>hg.1.ltI h;have hlt2:0 < out.length->idOf (env 10) < H.nx+1:=fun h=>by have:=hlt h;omega
 have hne1:0 < out.length->¬ (idOf (env 10)=H.nx):=fun h=>by have:=hlt h;omega
 have hne2:0 < out.length->¬ (idOf (env 10)=H.nx+1):=fun h=>by have:=hlt h;omega
 have hl1:0 < out.length->out.length - 1 < out.length:=fun h=>by omega
 have hl2:0 < out.length->out.length - 1 < l.sights.xs.length:=fun h=>by omega
 have hl3:0 < out.length->out.length < l.sights.xs.length->out.length - 1+1 < l.sights.xs.length:=fun h h'=>by omega
 have hok1:∀ h:0 < out.length,okSp (out[out.length - 1]'(by omega)):=fun h=>hok _ (List.getElem_mem _);have hyi:∀ (h:0 < out.length) (h':out.length < l.sights.xs.length),IntKind.i64.wrap (l.sights.xs[out.length].year - (l.sights.xs[out.length - 1]'(by omega)).year)=yr (out.length - 1):=fun h h'=>by
  have:=hyr (out.length - 1) (by omega);have h9:out.length - 1+1=out.length:=by omega
  simp only [h9] at this;exact this
 have hlen2:(zx Span.cells out).length=out.length*2:=zX (f:=Span.cells) (sz:=2) (fun _=>rfl) out;have hfr:=hg.1.fresh;have go0:∀ (h:out.length<=0) (h':out.length < l.sights.xs.length),Hide (((ofF l.sights.xs[out.length]).hi < (ofF l.sights.xs[out.length]).lo->fwdS on 0 none (l.sights.xs.map ofF)=none)/\(¬ (ofF l.sights.xs[out.length]).hi < (ofF l.sights.xs[out.length]).lo->fwdS on 0 none (l.sights.xs.map ofF)=(fwdS on (out++[ofF l.sights.xs[out.length]]).length (out++[ofF l.sights.xs[out.length]]).getLast? ((l.sights.xs.map ofF).drop (out++[ofF l.sights.xs[out.length]]).length)).map ((out++[ofF l.sights.xs[out.length]]) ++ ·))):=fun h h'=>by
  have:out=[]:=List.eq_nil_of_length_eq_zero (by omega)
  refine ⟨zlW (by simpa using h') ?_ hn.h⟩
  subst this;simp [zd0]
 have go1:∀ (h:0 < out.length) (h':out.length < l.sights.xs.length) (t:Span),t=zad (ofF l.sights.xs[out.length]) (on (out.length - 1) (out[out.length - 1]'(by omega)))->Hide ((t.hi < t.lo->fwdS on 0 none (l.sights.xs.map ofF)=none)/\(¬ t.hi < t.lo->fwdS on 0 none (l.sights.xs.map ofF)=(fwdS on (out++[t]).length (out++[t]).getLast? ((l.sights.xs.map ofF).drop (out++[t]).length)).map ((out++[t]) ++ ·))):=fun h h' t ht=>by
  refine ⟨zlW (by simpa using h') ?_ hn.h⟩
  rw [List.getLast?_eq_getElem?,List.getElem?_eq_getElem (by omega)]
  simpa [zd0] using ht
 (repeat' first|simp [*,zb]|(apply za<;>intro _ h<;>try simp [-Nat.le_zero_eq] at h)|(show wpE 0 (zl ..) ..;refine zw ?_)|(refine zi fun v2 H2 hv2 hnx2 hget2 hnew2 hone2 hcel2=>?_))
 ·have hl:out.length < l.sights.xs.length:=by assumption
  have h0:0 < out.length:=by assumption
  rw [hP.h,(go1 h0 hl _ rfl).h.1 (by assumption)];rfl
 ·have hl:out.length < l.sights.xs.length:=by assumption
  have h0:0 < out.length:=by assumption
  refine ⟨out++[zad (ofF l.sights.xs[out.length]) (on (out.length - 1) (out[out.length - 1]'(by omega)))],by simp;omega,by simp,by simp;omega,hv2,?_,⟨(go1 h0 hl _ rfl).h.2 (by omega)⟩⟩
  intro s hs;rcases List.mem_append.1 hs with h|h
  ·exact hok s h
  ·simp at h;subst h;exact zch (hofs _ (List.getElem_mem _)) (hw1 _ _ (hok1 h0))
 ·have hl:out.length < l.sights.xs.length:=by assumption
  have h0:out.length<=0:=by assumption
  rw [hP.h,(go0 h0 hl).h.1 (by assumption)];rfl
 ·have hl:out.length < l.sights.xs.length:=by assumption
  have h0:out.length<=0:=by assumption
  refine ⟨out++[ofF l.sights.xs[out.length]],by simp;omega,by simp,by simp;omega,hv2,?_,⟨(go0 h0 hl).h.2 (by omega)⟩⟩
  intro s hs;rcases List.mem_append.1 hs with h|h
  ·exact hok s h
  ·simp at h;subst h;exact hofs _ (List.getElem_mem _)
 have hl:out.length=l.sights.xs.length:=by omega
 have hP2:Hide (P=zc7 (some (bwdS back 0 out))):=⟨by rw [hP.h,hn.h,List.drop_eq_nil_of_le (by simp;omega)];simp [fwdS]⟩
 clear hP hn go0 go1 hl1 hl2 hl3 hok1 hyi hlt2 hne1 hne2 ha hfr;have hrow:=hob (by omega);have hlt1:=hlt (by omega);clear hob hlt;obtain ⟨id,hid,hget⟩:=hg.1.row (by intro e;rw [e] at hl;simp at hl;omega);have hw2':IntKind.i64.wrap ((l.sights.xs.length:Int) - 2)=(l.sights.xs.length:Int) - 2:=wrap64 (by omega) (by omega);have hlen3:=hg.1.len;clear hg hlen2 hrow hlt1;(repeat' first|simp [*,zb]|(apply za<;>intro _ h<;>try simp [-Nat.le_zero_eq] at h)|(show wpE 0 (zl ..) ..;refine zw ?_)|(refine zi fun v2 H2 hv2 hnx2 hget2 hnew2 hone2 hcel2=>?_))
 refine zF [(14,14),(64,99)] (fun (j:Nat) env H=>env 14=.pure (.int .i64 ((j:Int) - 1))/\j+1<=l.sights.xs.length/\H.get id=.cells true (zx Span.cells (out.take j++bwdS back j (out.drop j)))) (fun j=>j) (l.sights.xs.length - 1) ?_ ?_ ?_ ?_
 ·decide
 ·have h8:out.take (l.sights.xs.length - 1)++bwdS back (l.sights.xs.length - 1) (out.drop (l.sights.xs.length - 1))=out:=by
   rw [zg0 (by omega),List.take_append_drop]
  refine ⟨?_,by omega,by rw [h8];exact hget⟩
  simp;omega
 ·simp only [zB];omega
 rintro j env2 H2 ⟨h14,hj,hget2⟩
 cases j with
 | zero =>
  have h14':env2 14=.pure (.int .i64 (-1)):=by simpa using h14
  clear h14;rw [List.take_zero,List.nil_append,List.drop_zero] at hget2;have hbl:(bwdS back 0 out).length=l.sights.xs.length:=by rw [zav,hl]
  have hown:OwnV Span.cells 2 H2 (.row id 2 0 l.sights.xs.length) (bwdS back 0 out):=.inr ⟨id,by rw [hbl],hget2⟩;have hne:bwdS back 0 out≠[]:=by intro e;rw [e] at hbl;simp at hbl;omega
  obtain ⟨ids,hids⟩:=GrowV.res (n:=9) ⟨hown,fun e=>absurd e hne⟩ (fun _=>rfl);have hP3:P=.tup [(Sl.of (bwdS back 0 out)).pv Span.cells 2,.bool true]:=hP2.h;(repeat' first|simp [*,zb]|(apply za<;>intro _ h<;>try simp [-Nat.le_zero_eq] at h)|(show wpE 0 (zl ..) ..;refine zw ?_)|(refine zi fun v2 H2 hv2 hnx2 hget2 hnew2 hone2 hcel2=>?_))
 | succ k =>
  have h14':env2 14=.pure (.int .i64 (k:Nat)):=by rw [h14];congr 2;omega
  clear h14;have hB:((bwdS back (k+1) (out.drop (k+1))).length=l.sights.xs.length - (k+1)):=by rw [zav];simp;omega
  have c0:(out.take (k+1)++bwdS back (k+1) (out.drop (k+1))).length=l.sights.xs.length:=by rw [List.length_append,hB,List.length_take];omega
  have c2:∀ h,(out.take (k+1)++bwdS back (k+1) (out.drop (k+1)))[k]'h=out[k]'(by omega):=fun h=>by
   rw [List.getElem_append_left (by simp;omega)];simp
  have c3:∀ h,(out.take (k+1)++bwdS back (k+1) (out.drop (k+1)))[k+1]'h=(bwdS back (k+1) (out.drop (k+1)))[0]'(by omega):=fun h=>by
   rw [List.getElem_append_right (by simp;omega)]
   congr 1
   simp;omega
  have c4:∀ h,okSp ((out.take (k+1)++bwdS back (k+1) (out.drop (k+1)))[k+1]'h):=fun h=>by
   rw [c3];exact zmc hw2 _ _ (fun s hs=>hok s (List.mem_of_mem_drop hs)) _ (List.getElem_mem _)
  have c5:∀ h1 h2,(out.take (k+1)++bwdS back (k+1) (out.drop (k+1))).set k (zad ((out.take (k+1)++bwdS back (k+1) (out.drop (k+1)))[k]'h1) (back k ((out.take (k+1)++bwdS back (k+1) (out.drop (k+1)))[k+1]'h2)))=out.take k++bwdS back k (out.drop k):=fun h1 h2=>by
   rw [c2,c3,zg3 (j:=k) (by omega),List.set_append_left _ _ (by simp;omega),<- zaO (xs:=out) (i:=k) (by omega)];rw [List.set_append_right _ _ (by rw [List.length_take];omega)];simp
   congr 1
   simp [Nat.min_eq_left (show k<=out.length by omega)]<;>omega
  obtain ⟨cur,e1,d0,d4,d5⟩:∃ cur:List Span,H2.get id=.cells true (zx Span.cells cur)/\cur.length=l.sights.xs.length/\(∀ h,okSp (cur[k+1]'h))/\(∀ h1 h2,cur.set k (zad (cur[k]'h1) (back k (cur[k+1]'h2)))=out.take k++bwdS back k (out.drop k)):=⟨_,hget2,c0,c4,c5⟩
  clear c0 c2 c3 c4 c5 hB hget2;have hk1:k+1 < l.sights.xs.length:=by omega
  have hk0:k < l.sights.xs.length:=by omega
  have hfit2:k < 9223372036854775807:=by omega
  have c6:=d4 (by omega);have hid2:=zq e1;have hyk:=hyr k hk1;have c5':Hide _:=⟨d5 (by omega) (by omega)⟩
  clear d5 d4;(repeat' first|simp [*,zb]|(apply za<;>intro _ h<;>try simp [-Nat.le_zero_eq] at h)|(show wpE 0 (zl ..) ..;refine zw ?_)|(refine zi fun v2 H2 hv2 hnx2 hget2 hnew2 hone2 hcel2=>?_));exact ⟨k,by omega,wrap64 (by omega) (by omega),by omega,by rw [c5'.h]⟩
def goL:List UInt8->Nat->List (Int×List UInt8)->Option (List (List UInt8))
 | p,m,[]=>some (List.replicate m p)
 | p,m,(k,t)::r=>if k=2 then (goL t 1 r).map (List.replicate m p ++ ·) else if zZ p t=true then goL (mixL p t) (m+1) r else none
def lets (l:List Sight):List (List UInt8):=l.map (·.letters)
def zaE (l:List Sight) (c:List Int):List (Int×List UInt8):=c.zip (lets l).tail
def za7 (l:List Sight) (c:List Int) (i:Nat):Option (List (List UInt8)):=if h:i < l.length then goL l[i].letters 1 ((zaE l c).drop i) else some []
def zae (l:List Sight) (c:List Int):Option (List (List UInt8)):=za7 l c 0
def zbG:Option (List (List UInt8))->PV
 | none=>.tup [.nils,.bool false]
 | some l=>.tup [(Sl.of l).pv strF 1,.bool true]
theorem zfZ {l:List Sight} {c:List Int} {i:Nat} (hc:c.length+1=l.length) (hi:i < c.length):(zaE l c).drop i=(c[i],(l[i+1]'(by omega)).letters)::(zaE l c).drop (i+1):=by
 have hlen:(zaE l c).length=c.length:=by simp [zaE,lets];omega
 rw [List.drop_eq_getElem_cons (by omega)]
 congr 1
 simp [zaE,lets]
theorem zhx {l:List Sight} {c:List Int} {i:Nat} (hc:c.length+1=l.length) (hi:c.length<=i):(zaE l c).drop i=[]:=by
 apply List.drop_eq_nil_of_le;simp [zaE,lets];omega
@[simp] theorem znS {l:List (List UInt8)} {i:Nat} {x:List UInt8} (h:i < l.length):zcy (.cells true (zx strF l)) 1 i [.pure (.str ⟨x.toArray⟩)]=some (.cells true (zx strF (l.set i x))):=by
 have:=zgi (f:=strF) (sz:=1) (l:=l) (i:=i) (a:=x) (fun _=>rfl) (fun _=>rfl) (by decide) h;rw [Nat.mul_one] at this;exact this
theorem zhk {p q:List UInt8} (h:zZ p q=true):(mixL p q).length<=8:=by
 simp [zZ,patR] at h;have main:∀ (p q:List UInt8),(mixL p q).length<=p.length:=by
  intro p
  induction p with
  | nil=>intro q;simp [mixL]
  | cons a p ih=>intro q;cases q with
   | nil=>simp [mixL]
   | cons b q=>simp [mixL];exact ih q
 have:=main p q;omega
theorem sh38:G.shared 38=false:=by decide
theorem e38 (n:Nat) (l:Life) (c:Sl Int) (hc:c.xs.length+1=l.sights.xs.length) (h9:l.sights.xs.length<=9) (hl:∀ s∈l.sights.xs,s.letters.length<=20):zD G (n+5) 38 [.agg l.cells,c.pv intF 1]=some (zbG (zae l.sights.xs c.xs)):=by
 refine zo (zm _) rfl g38 rfl ?_
 have hP:Hide (zbG (zae l.sights.xs c.xs)=zbG (za7 l.sights.xs c.xs 0)):=⟨rfl⟩
 generalize zbG (zae l.sights.xs c.xs)=P at *;(repeat' first|simp [*,zb,c38]|(apply za<;>intro _ h<;>try simp [-Nat.le_zero_eq] at h)|(show wpE 0 (zl ..) ..;refine zw ?_)|(refine zi fun v2 H2 hv2 hnx2 hget2 hnew2 hone2 hcel2=>?_))
 refine zF [(4,62)] (fun (out:List (List UInt8)) env H=>env 7=.pure (.int .i64 out.length)/\out.length<=l.sights.xs.length/\GrowV strF 1 H (env 6) out /\
   Hide (za7 l.sights.xs c.xs 0=(za7 l.sights.xs c.xs out.length).map (out ++ ·))) (fun out=>l.sights.xs.length - out.length) [] ?_ ?_ ?_ ?_
 ·decide
 ·simp [GrowV.nil]
 ·simp only [zB];simp;omega
 rintro out env H ⟨h7,hi,hg,hn⟩;have hfit:out.length < 9223372036854775807:=by omega
 obtain ⟨ids,hids⟩:=hg.res (n:=9) (fun _=>rfl);(repeat' first|simp [*,zb]|(apply za<;>intro _ h<;>try simp [-Nat.le_zero_eq] at h)|(show wpE 0 (zl ..) ..;refine zw ?_)|(refine zi fun v2 H2 hv2 hnx2 hget2 hnew2 hone2 hcel2=>?_))
 rotate_left
 ·have he:out.length=l.sights.xs.length:=by omega
  have hP2:P=.tup [(Sl.of out).pv strF 1,.bool true]:=by rw [hP.h,hn.h,za7,dif_neg (by omega)];simp [zbG]
  simp [*]
 have hlt:out.length < l.sights.xs.length:=by assumption
 have hst:za7 l.sights.xs c.xs out.length=goL l.sights.xs[out.length].letters 1 ((zaE l.sights.xs c.xs).drop out.length):=by rw [za7,dif_pos hlt]
 have hn2:Hide (za7 l.sights.xs c.xs 0=(goL l.sights.xs[out.length].letters 1 ((zaE l.sights.xs c.xs).drop out.length)).map (out ++ ·)):=⟨by rw [hn.h,hst]⟩
 clear hst hn
 refine zF [(4,5),(8,11),(25,53)] (fun (s:Nat×List UInt8) env2 H2=>env2 8=.pure (.int .i64 (s.1:Nat))/\env2 9=.pure (.str ⟨s.2.toArray⟩)/\out.length < s.1/\s.1<=l.sights.xs.length/\H2=H/\s.2.length<=20 /\
   Hide (goL l.sights.xs[out.length].letters 1 ((zaE l.sights.xs c.xs).drop out.length)=goL s.2 (s.1 - out.length) ((zaE l.sights.xs c.xs).drop (s.1 - 1)))) (fun s=>l.sights.xs.length - s.1) (out.length+1,l.sights.xs[out.length].letters) ?_ ?_ ?_ ?_
 ·decide
 ·refine ⟨by simp,by simp,by simp,by simp;omega,rfl,hl _ (List.getElem_mem _),⟨by simp⟩⟩
 ·simp only [zB];omega
 rintro ⟨m,p⟩ env2 H2 ⟨h8,h9',hm0,hm,rfl,hp,hn3⟩;simp only at h8 h9' hm0 hm hp hn3;have hfit2:m < 9223372036854775807:=by omega
 have hm1:0 < m:=by omega
 have hc1:m - 1 < c.xs.length\/True:=.inr trivial;have hc2:m < l.sights.xs.length->m - 1 < c.xs.length:=fun h=>by omega
 have hl2:∀ h:m < l.sights.xs.length,l.sights.xs[m].letters.length < 1152921504606846975:=fun h=>by have:=hl _ (List.getElem_mem h);omega
 have hp2:p.length < 1152921504606846975:=by omega
 have gd:∀ h:m < l.sights.xs.length,(zaE l.sights.xs c.xs).drop (m - 1)=(c.xs[m - 1]'(by omega),l.sights.xs[m].letters)::(zaE l.sights.xs c.xs).drop m:=fun h=>by
  have:=zfZ (c:=c.xs) hc (i:=m - 1) (by omega);have h9:m - 1+1=m:=by omega
  simp only [h9] at this;exact this
 have gd':Hide (∀ h:m < l.sights.xs.length,(zaE l.sights.xs c.xs).drop (m - 1)=(c.xs[m - 1]'(by omega),l.sights.xs[m].letters)::(zaE l.sights.xs c.xs).drop m):=⟨gd⟩
 clear gd hc1;(repeat' first|simp [*,zb]|(apply za<;>intro _ h<;>try simp [-Nat.le_zero_eq] at h)|(show wpE 0 (zl ..) ..;refine zw ?_)|(refine zi fun v2 H2 hv2 hnx2 hget2 hnew2 hone2 hcel2=>?_))
 ·have hml:m < l.sights.xs.length:=by assumption
  have hk:c.xs[m - 1]'(hc2 hml)=2:=by assumption
  have hseg:Hide (za7 l.sights.xs c.xs 0=(za7 l.sights.xs c.xs m).map ((out++List.replicate (m - out.length) p) ++ ·)):=⟨by
   rw [hn2.h,hn3.h,gd'.h hml,goL,if_pos hk,za7,dif_pos hml,Option.map_map];simp [Function.comp_def]⟩
  clear gd' hn2 hn3 hk
  rename decide (m < l.sights.xs.length)=true=>hz
  clear hz
  refine zF [(6,7),(54,62)] (fun (j:Nat) env3 H3=>env3 7=.pure (.int .i64 j)/\out.length<=j/\j<=m/\GrowV strF 1 H3 (env3 6) (out++List.replicate (j - out.length) p)) (fun j=>m - j) out.length ?_ ?_ ?_ ?_
  ·decide
  ·simp [*]<;>omega
  ·simp only [zB];omega
  rintro j env3 H3 ⟨h7',hj0,hj,hg3⟩;have hfit3:j < 9223372036854775807:=by omega
  (repeat' first|simp [*,zb]|(apply za<;>intro _ h<;>try simp [-Nat.le_zero_eq] at h)|(show wpE 0 (zl ..) ..;refine zw ?_)|(refine zi fun v2 H2 hv2 hnx2 hget2 hnew2 hone2 hcel2=>?_))
  ·refine ⟨j+1,by omega,by simp,by omega,by omega,?_⟩
   refine hv2.cast ?_
   have h9:j+1 - out.length=(j - out.length)+1:=by omega
   rw [h9,List.replicate_succ']
   try simp
  ·have hj9:j=m:=by omega
   subst hj9
   refine ⟨out++List.replicate (j - out.length) p,by simp;omega,by simp;omega,by simp;omega,hg3,⟨?_⟩⟩
   have h9:(out++List.replicate (j - out.length) p).length=j:=by simp;omega
   rw [h9];exact hseg.h
 ·have hml:m < l.sights.xs.length:=by assumption
  have hk:¬ c.xs[m - 1]'(hc2 hml)=2:=by assumption
  have ha:zZ p l.sights.xs[m].letters=true:=by assumption
  have hlen:=zhk ha
  refine ⟨m+1,by omega,by simp,mixL p l.sights.xs[m].letters,rfl,by omega,by omega,by omega,⟨?_⟩⟩
  have h9:m+1 - out.length=m - out.length+1:=by omega
  rw [hn3.h,gd'.h hml,goL,if_neg hk,if_pos ha,h9];simp
 ·have hml:m < l.sights.xs.length:=by assumption
  have hk:¬ c.xs[m - 1]'(hc2 hml)=2:=by assumption
  have ha:¬ zZ p l.sights.xs[m].letters=true:=by simpa using (by assumption:zZ p l.sights.xs[m].letters=false)
  rw [hP.h,hn2.h,hn3.h,gd'.h hml,goL,if_neg hk,if_neg ha];rfl
 ·have hml:m=l.sights.xs.length:=by omega
  have hseg:Hide (za7 l.sights.xs c.xs 0=(za7 l.sights.xs c.xs m).map ((out++List.replicate (m - out.length) p) ++ ·)):=⟨by
   rw [hn2.h,hn3.h,zhx hc (by omega),goL,za7,dif_neg (by omega)];simp⟩
  clear gd' hn2 hn3 hc2 hl2
  refine zF [(6,7),(54,62)] (fun (j:Nat) env3 H3=>env3 7=.pure (.int .i64 j)/\out.length<=j/\j<=m/\GrowV strF 1 H3 (env3 6) (out++List.replicate (j - out.length) p)) (fun j=>m - j) out.length ?_ ?_ ?_ ?_
  ·decide
  ·simp [*]<;>omega
  ·simp only [zB];omega
  rintro j env3 H3 ⟨h7',hj0,hj,hg3⟩;have hfit3:j < 9223372036854775807:=by omega
  (repeat' first|simp [*,zb]|(apply za<;>intro _ h<;>try simp [-Nat.le_zero_eq] at h)|(show wpE 0 (zl ..) ..;refine zw ?_)|(refine zi fun v2 H2 hv2 hnx2 hget2 hnew2 hone2 hcel2=>?_))
  ·refine ⟨j+1,by omega,by simp,by omega,by omega,?_⟩
   refine hv2.cast ?_
   have h9:j+1 - out.length=(j - out.length)+1:=by omega
   rw [h9,List.replicate_succ']
   try simp
  ·have hj9:j=m:=by omega
   subst hj9
   refine ⟨out++List.replicate (j - out.length) p,by simp;omega,by simp;omega,by simp;omega,hg3,⟨?_⟩⟩
   have h9:(out++List.replicate (j - out.length) p).length=j:=by simp;omega
   rw [h9];exact hseg.h
@[simp] theorem d38 (n:Nat) (H:Heap) (l_habit_step:Int) (l_habit_place:Int) (l_habit_sink:Int) (l_sights:Sl Sight) (l_notes:Sl Note) (c:Sl Int) (hc:(fun (l:Life)=>c.xs.length+1=l.sights.xs.length) (⟨⟨l_habit_step,l_habit_place,l_habit_sink⟩,l_sights,l_notes⟩:Life)) (h9:(fun (l:Life)=>l.sights.xs.length<=9) (⟨⟨l_habit_step,l_habit_place,l_habit_sink⟩,l_sights,l_notes⟩:Life)) (hl:(fun (l:Life)=>∀ s∈l.sights.xs,s.letters.length<=20) (⟨⟨l_habit_step,l_habit_place,l_habit_sink⟩,l_sights,l_notes⟩:Life)):zn (zg G (n+5)) H (.pure (.func 38 [])) [.pure (.agg [.int .i64 l_habit_step,.int .i64 l_habit_place,.int .i64 l_habit_sink,(l_sights).pv Sight.cells 9,(l_notes).pv Note.cells 4]),.pure (c.pv intF 1)]=some (.val (.pure ((fun (l:Life)=>zbG (zae l.sights.xs c.xs)) (⟨⟨l_habit_step,l_habit_place,l_habit_sink⟩,l_sights,l_notes⟩:Life)))) :=
 zh (ps:=[_,_]) (caps:=[]) sh38 (e38 n (⟨⟨l_habit_step,l_habit_place,l_habit_sink⟩,l_sights,l_notes⟩:Life) c hc h9 hl)
theorem zlK {p:List UInt8} {m:Nat} {k:Int} {t:List UInt8} {r:List (Int×List UInt8)} (hk:¬ k=2) (ha:zZ p t=false):goL p m ((k,t)::r)=none:=by
 rw [goL,if_neg hk,if_neg (by simp [ha])]
theorem sh92:G.shared 92=false:=by decide
theorem e92 (n:Nat) (l:Life) (c:Sl Int) (hc:c.xs.length+1=l.sights.xs.length) (h9:l.sights.xs.length<=9) (hl:∀ s∈l.sights.xs,s.letters.length<=20):zD G (n+4) 92 [.agg l.cells,c.pv intF 1]=some (zbG (zae l.sights.xs c.xs)):=by
 refine zo (zm _) rfl g92 rfl ?_
 have hP:Hide (zbG (zae l.sights.xs c.xs)=zbG (za7 l.sights.xs c.xs 0)):=⟨rfl⟩
 generalize zbG (zae l.sights.xs c.xs)=P at *;(repeat' first|simp [*,zb,c92]|(apply za<;>intro _ h<;>try simp [-Nat.le_zero_eq] at h)|(show wpE 0 (zl ..) ..;refine zw ?_)|(refine zi fun v2 H2 hv2 hnx2 hget2 hnew2 hone2 hcel2=>?_))
 refine zF [(4,13),(17,62)] (fun (s:Nat×List (List UInt8)×List UInt8) env H=>env 17=.pure (.int .i64 s.1)/\s.1<=l.sights.xs.length/\env 7=.pure (.int .i64 s.2.1.length) /\
   ((s.1=0/\s.2.1=[]/\env 6=.pure .nils)\/(s.2.1.length < s.1/\GrowV strF 1 H (env 6) (s.2.1++List.replicate (s.1 - s.2.1.length) s.2.2) /\
    Hide (za7 l.sights.xs c.xs 0=(goL s.2.2 (s.1 - s.2.1.length) ((zaE l.sights.xs c.xs).drop (s.1 - 1))).map (s.2.1 ++ ·))))/\s.2.2.length<=20) (fun s=>l.sights.xs.length - s.1) (0,[],[]) ?_ ?_ ?_ ?_
 ·decide
 ·simp
 ·simp only [zB];omega
 rintro ⟨i,done,p⟩ env H ⟨h17,hi,h7,hor,hp20⟩;simp only at h17 hi h7 hor hp20;have hfit:i < 9223372036854775807:=by omega
 rcases hor with ⟨hi0,hd,h6⟩|⟨hd,hg,hn⟩
 ·subst hi0 hd;have hg:GrowV strF 1 H (env 6) ([]:List (List UInt8)):=by rw [h6];exact GrowV.nil
  have h0:0 < l.sights.xs.length:=by omega
  have ha0:zda 9 (.pure (l.sights.pv Sight.cells 9)) (.pure (.int .i64 0))=some (.val (.pure (.ptr l.sights.hot (l.sights.xs[0]).cells 0))):=zaD (n:=0) h0;clear h6;(repeat' first|simp [*,zb]|(apply za<;>intro _ h<;>try simp [-Nat.le_zero_eq] at h)|(show wpE 0 (zl ..) ..;refine zw ?_)|(refine zi fun v2 H2 hv2 hnx2 hget2 hnew2 hone2 hcel2=>?_))
  refine zF [(13,13),(53,61)] (fun (j:Nat) env3 H3=>j=0/\env3 13=.pure (.int .i64 0)/\H3=H2) (fun j=>0) 0 ?_ ?_ ?_ ?_
  ·decide
  ·simp
  ·simp only [zB];omega
  rintro j env3 H3 ⟨rfl,h13,rfl⟩;(repeat' first|simp [*,zb]|(apply za<;>intro _ h<;>try simp [-Nat.le_zero_eq] at h)|(show wpE 0 (zl ..) ..;refine zw ?_)|(refine zi fun v2 H2 hv2 hnx2 hget2 hnew2 hone2 hcel2=>?_))
  refine ⟨1,by omega,rfl,by omega,[],rfl,l.sights.xs[0].letters,⟨.inr ⟨by simp,by simpa using hv2,⟨?_⟩⟩,hl _ (List.getElem_mem _)⟩⟩
  rw [za7,dif_pos h0];simp
 obtain ⟨O,hO⟩:∃ O,O=done++List.replicate (i - done.length) p:=⟨_,rfl⟩
 rw [<- hO] at hg;have hOl:Hide (O.length=i):=⟨by rw [hO];simp;omega⟩
 have hOh:Hide (O=done++List.replicate (i - done.length) p):=⟨hO⟩
 clear hO;have hi0:0 < i:=by omega
 have ha:∀ k j,j < i->zda 1 (env 6) (.pure (.int k (j:Nat)))=some (.val (.box (idOf (env 6)) j)):=fun k j h=>by
  have:=hg.1.addr (k:=k) (i:=j) (by have:=hOl.h;omega);rw [Nat.mul_one] at this;exact this
 have hob:=hg.1.objI (by have:=hOl.h;omega);have hlt:=hg.1.ltI (by have:=hOl.h;omega);have hlt2:idOf (env 6) < H.nx+1:=by omega
 have hne1:¬ (idOf (env 6)=H.nx):=by omega
 have hlast:∀ h,O[i - 1]'h=p:=fun h=>by
  have:=hOh.h;subst this;rw [List.getElem_append_right (by omega),List.getElem_replicate]
 have hld:zcE (.cells true (zx strF O)) 1 (i - 1)=some [.pure (.str ⟨p.toArray⟩)]:=by
  rw [zfb (fun _=>rfl) (by have:=hOl.h;omega),hlast];rfl
 have hfr:=hg.1.fresh;have hi1:i - 1 < i:=by omega
 have hi2:i < l.sights.xs.length->i - 1 < c.xs.length:=fun h=>by omega
 have hbs:∀ t,zcr p t=.tup [strP (if zZ p t=true then mixL p t else []),.bool (zZ p t)]:=fun t=>zjm p t;have gd':Hide (∀ h:i < l.sights.xs.length,(zaE l.sights.xs c.xs).drop (i - 1)=(c.xs[i - 1]'(by omega),l.sights.xs[i].letters)::(zaE l.sights.xs c.xs).drop i):=⟨fun h=>by
  have:=zfZ (c:=c.xs) hc (i:=i - 1) (by omega);have h9:i - 1+1=i:=by omega
  simp only [h9] at this;exact this⟩
 have hO2:O.length<=9:=by have:=hOl.h;omega
 obtain ⟨ids,hids⟩:=hg.res (n:=9) (fun _=>rfl);clear hlast;(repeat' first|simp [*,zb,strP]|(apply za<;>intro _ h<;>try simp [-Nat.le_zero_eq] at h)|(show wpE 0 (zl ..) ..;refine zw ?_)|(refine zi fun v2 H2 hv2 hnx2 hget2 hnew2 hone2 hcel2=>?_))
 ·-- a new stone
  have hml:i < l.sights.xs.length:=by assumption
  have hk:c.xs[i - 1]'(hi2 hml)=2:=by assumption
  have hg2:=hv2;have hnx9:=hv2.1.row (by simp);clear hv2 hld hob ha hlt hlt2 hids
  refine zF [(13,13),(53,61)] (fun (j:Nat) env3 H3=>j=0/\env3 13=.pure (.int .i64 i)/\H3=H2) (fun j=>0) 0 ?_ ?_ ?_ ?_
  ·decide
  ·simp
  ·simp only [zB];omega
  rintro j env3 H3 ⟨rfl,h13,rfl⟩;(repeat' first|simp [*,zb]|(apply za<;>intro _ h<;>try simp [-Nat.le_zero_eq] at h)|(show wpE 0 (zl ..) ..;refine zw ?_)|(refine zi fun v2 H2 hv2 hnx2 hget2 hnew2 hone2 hcel2=>?_))
  refine ⟨i+1,by omega,by simp,by omega,O,by rw [hOl.h],l.sights.xs[i].letters,⟨.inr ⟨by rw [hOl.h];omega,hg2.cast ?_,⟨?_⟩⟩,hl _ (List.getElem_mem _)⟩⟩
  ·have h8:i+1 - O.length=1:=by rw [hOl.h];omega
   rw [h8];rfl
  ·have h8:i+1 - O.length=1:=by rw [hOl.h];omega
   rw [hn.h,gd'.h hml,goL,if_pos hk,h8,Option.map_map];simp [Function.comp_def,hOh.h]
 ·have hml:i < l.sights.xs.length:=by assumption
  have hk:¬ c.xs[i - 1]'(hi2 hml)=2:=by assumption
  have hag:zZ p l.sights.xs[i].letters=true:=by assumption
  obtain ⟨id2,hid2,hget2'⟩:=hv2.1.row (by simp);have hol:=hOl.h;have hl2:(O++[mixL p l.sights.xs[i].letters]).length=i+1:=by simp [hol]
  have hmx:=zhk hag;clear hv2 hld hob ha hlt hlt2 hids
  refine zF [(13,13),(53,61)] (fun (j:Nat) env3 H3=>env3 13=.pure (.int .i64 j)/\done.length<=j/\j<=i/\H3.get id2=.cells true (zx strF (done++List.replicate (j - done.length) (mixL p l.sights.xs[i].letters)++(O++[mixL p l.sights.xs[i].letters]).drop j))) (fun j=>i - j) done.length ?_ ?_ ?_ ?_
  ·decide
  ·refine ⟨by simp [*],by omega,by omega,?_⟩
   rw [hget2']
   congr 2
   have h8:=hOh.h;simp;rw [h8];simp
  ·simp only [zB];omega
  rintro j env3 H3 ⟨h13,hj0,hj,hg3⟩;have hfit3:j < 9223372036854775807:=by omega
  have hXl:(done++List.replicate (j - done.length) (mixL p l.sights.xs[i].letters)++(O++[mixL p l.sights.xs[i].letters]).drop j).length=i+1:=by
   rw [List.length_append,List.length_append,List.length_replicate,List.length_drop,hl2];omega
  have hXs:j < i->(done++List.replicate (j - done.length) (mixL p l.sights.xs[i].letters)++(O++[mixL p l.sights.xs[i].letters]).drop j).set j (mixL p l.sights.xs[i].letters)=done++List.replicate (j+1 - done.length) (mixL p l.sights.xs[i].letters)++(O++[mixL p l.sights.xs[i].letters]).drop (j+1):=fun h=>by
   have h8:j+1 - done.length=(j - done.length)+1:=by omega
   have h7:(done++List.replicate (j - done.length) (mixL p l.sights.xs[i].letters)).length=j:=by simp;omega
   rw [List.set_append_right _ _ (by omega),h7,Nat.sub_self,List.drop_eq_getElem_cons (by omega),List.set_cons_zero,h8,List.replicate_succ'];simp
  have hXe:j=i->done++List.replicate (j - done.length) (mixL p l.sights.xs[i].letters)++(O++[mixL p l.sights.xs[i].letters]).drop j=done++List.replicate (i+1 - done.length) (mixL p l.sights.xs[i].letters):=fun h=>by
   subst h;have h8:j+1 - done.length=(j - done.length)+1:=by omega
   rw [h8,List.replicate_succ',List.drop_left' hol,List.append_assoc]
  have hXs':Hide _:=⟨hXs⟩
  have hXe':Hide _:=⟨hXe⟩
  clear hXs hXe;obtain ⟨X,hX⟩:∃ X,X=done++List.replicate (j - done.length) (mixL p l.sights.xs[i].letters)++(O++[mixL p l.sights.xs[i].letters]).drop j:=⟨_,rfl⟩
  rw [<- hX] at hg3 hXl hXs' hXe';clear hX;have hid3:=zq hg3;have hX2:j < i->j < i+1:=fun h=>by omega
  subst hid2;(repeat' first|simp [*,zb]|(apply za<;>intro _ h<;>try simp [-Nat.le_zero_eq] at h)|(show wpE 0 (zl ..) ..;refine zw ?_)|(refine zi fun v2 H2 hv2 hnx2 hget2 hnew2 hone2 hcel2=>?_))
  ·exact ⟨j+1,by omega,by simp,by omega,by omega,by rw [hXs'.h (by assumption),List.append_assoc]⟩
  ·have hji:j=i:=by omega
   rw [hXe'.h hji] at hg3 hXl
   refine ⟨i+1,by omega,by simp,by omega,done,rfl,mixL p l.sights.xs[i].letters,⟨⟨by omega,⟨.inr ⟨id2,by rw [hXl],hg3⟩,fun e=>by rw [e] at hXl;simp at hXl⟩,⟨?_⟩⟩,by omega⟩⟩
   have h8:i+1 - done.length=(i - done.length)+1:=by omega
   rw [hn.h,gd'.h hml,goL,if_neg hk,if_pos hag,h8];simp
 ·have hml:i < l.sights.xs.length:=by assumption
  have hk:¬ c.xs[i - 1]'(hi2 hml)=2:=by assumption
  rw [hP.h,hn.h,gd'.h hml,zlK hk (by assumption)];rfl
 ·have he:i=l.sights.xs.length:=by omega
  rw [hP.h,hn.h,zhx hc (by omega),goL];simp [zbG,hOh.h]
@[simp] theorem d92 (n:Nat) (H:Heap) (l_habit_step:Int) (l_habit_place:Int) (l_habit_sink:Int) (l_sights:Sl Sight) (l_notes:Sl Note) (c:Sl Int) (hc:(fun (l:Life)=>c.xs.length+1=l.sights.xs.length) (⟨⟨l_habit_step,l_habit_place,l_habit_sink⟩,l_sights,l_notes⟩:Life)) (h9:(fun (l:Life)=>l.sights.xs.length<=9) (⟨⟨l_habit_step,l_habit_place,l_habit_sink⟩,l_sights,l_notes⟩:Life)) (hl:(fun (l:Life)=>∀ s∈l.sights.xs,s.letters.length<=20) (⟨⟨l_habit_step,l_habit_place,l_habit_sink⟩,l_sights,l_notes⟩:Life)):zn (zg G (n+4)) H (.pure (.func 92 [])) [.pure (.agg [.int .i64 l_habit_step,.int .i64 l_habit_place,.int .i64 l_habit_sink,(l_sights).pv Sight.cells 9,(l_notes).pv Note.cells 4]),.pure (c.pv intF 1)]=some (.val (.pure ((fun (l:Life)=>zbG (zae l.sights.xs c.xs)) (⟨⟨l_habit_step,l_habit_place,l_habit_sink⟩,l_sights,l_notes⟩:Life)))) :=
 zh (ps:=[_,_]) (caps:=[]) sh92 (e92 n (⟨⟨l_habit_step,l_habit_place,l_habit_sink⟩,l_sights,l_notes⟩:Life) c hc h9 hl)
structure Told where
 boxes:Sl Box
 heights:Sl Span
 letters:Sl (List UInt8)
 deriving Inhabited
@[simp] def Told.cells (s:Told):List PV:=[(s.boxes).pv Box.cells 4,(s.heights).pv Span.cells 2,(s.letters).pv strF 1]
@[simp] theorem Told.eta (s:Told):(⟨s.boxes,s.heights,s.letters⟩:Told)=s:=rfl
structure Right (l:Life):Prop where
 habit:zbq l.habit=true
 one:1<=l.sights.xs.length
 nine:l.sights.xs.length<=9
 notes:l.notes.xs.length<=20
 sight:∀ s∈l.sights.xs,zbW s=true
 years:∀ i (h:i+1 < l.sights.xs.length),l.sights.xs[i].year < l.sights.xs[i+1].year
 note:∀ m∈l.notes.xs,zaX m=true
 ids:l.ids.Nodup
theorem ze3 {p:Nat->Bool} {n:Nat}:∀ k,k<=n->(zaw p n k=true↔∀ i,n - k<=i->i < n->p i=true):=by
 intro k
 induction k with
 | zero=>intro _;simp only [zaw,true_iff];intro i h1 h2;omega
 | succ k ih =>
  intro hk;simp only [zaw,Bool.and_eq_true,ih (by omega)]
  constructor
  ·rintro ⟨h1,h2⟩ i h3 h4
   by_cases h5:i=n - (k+1)
   ·rw [h5];exact h1
   ·exact h2 i (by omega) h4
  ·intro h;exact ⟨h _ (Nat.le_refl _) (by omega),fun i h1 h2=>h i (by omega) h2⟩
theorem allL_iff {α:Type} {p:α->Bool}:∀ {l:List α},allL p l=true↔∀ a∈l,p a=true
 | []=>by simp [allL]
 | a::l=>by simp [allL,allL_iff (l:=l)]
theorem za1 (l:Life):zR l=0↔Right l:=by
 unfold zR
 constructor
 ·intro h
  split at h
  ·simp at h
  ·split at h
   ·simp at h
   ·split at h
    ·simp at h
    ·split at h
     ·simp at h
     ·split at h
      ·rename_i h1 h2 h3 h4 h5;have h3':=(ze3 l.sights.xs.length (Nat.le_refl _)).1 (by simpa using h3)
       refine ⟨by simpa using h1,by omega,by omega,by omega,fun s hs=>?_,fun i hi=>?_,fun m hm=>allL_iff.1 (by simpa using h4) m hm,h5⟩
       ·obtain ⟨i,hi,rfl⟩:=List.getElem_of_mem hs;have:=h3' i (by omega) hi;rw [zat hi] at this;simp at this;exact this.1
       ·have:=h3' (i+1) (by omega) hi;rw [zat hi] at this;simp at this;exact this.2
      ·simp at h
 ·intro h;rw [if_neg (by simp [h.habit]),if_neg (by have:=h.one;have:=h.nine;have:=h.notes;omega),if_neg,if_neg,if_pos h.ids]
  ·rw [Bool.not_eq_false,allL_iff];exact h.note
  ·rw [Bool.not_eq_false,ze3 _ (Nat.le_refl _)];intro i _ hi;rw [zat hi,h.sight _ (List.getElem_mem hi)]
   cases i with
   | zero=>simp
   | succ i=>simpa using h.years i hi
theorem Right.sp {l:Life} (h:Right l) {s:Sight} (hs:s∈l.sights.xs):okSp s.box.x/\okSp s.box.y/\okSp s.height/\0<=s.height.lo/\s.height.hi<=100/\s.box.x.lo<=s.box.x.hi/\s.box.y.lo<=s.box.y.hi/\s.height.lo<=s.height.hi/\0<=s.year/\s.year<=4000/\s.letters.length<=8:=by
 have:=h.sight s hs;simp [zbW,zdb,zem,zdi,patR] at this;unfold okSp;omega
theorem Right.yr {l:Life} (h:Right l) {k:Nat} (hk:k+1 < l.sights.xs.length):0<=l.sights.xs[k+1].year - l.sights.xs[k].year/\l.sights.xs[k+1].year - l.sights.xs[k].year<=4000:=by
 have h1:=h.sp (List.getElem_mem (l:=l.sights.xs) (n:=k) (by omega));have h2:=h.sp (List.getElem_mem (l:=l.sights.xs) (n:=k+1) hk);have:=h.years k hk;omega
def yrS (l:List Sight) (k:Nat):Int:=l[k+1]!.year - l[k]!.year
def onX (l:Life) (c:List Int) (k:Nat) (s:Span):Span:=onD (farD l.habit c[k]!) s
def onH (l:Life) (c:List Int) (k:Nat) (s:Span):Span:=if k+1 < l.sights.xs.length then upH l.habit c[k]! (yrS l.sights.xs k) s else s
def za9 (l:Life) (c:List Int) (k:Nat) (s:Span):Span:=if k+1 < l.sights.xs.length then zcF l.habit c[k]! (yrS l.sights.xs k) s else s
def thX (l:Life) (c:List Int):Option (List Span):=zaH (onX l c) (onX l c) (l.sights.xs.map (·.box.x))
def thY (l:Life) (c:List Int):Option (List Span):=zaH (onX l c) (onX l c) (l.sights.xs.map (·.box.y))
def thH (l:Life) (c:List Int):Option (List Span):=zaH (onH l c) (za9 l c) (l.sights.xs.map (·.height))
structure TellR where
 boxes:List Box
 heights:List Span
 letters:List (List UInt8)
def zaQ (l:Life) (c:List Int):Option TellR:=if allL (fun m=>zao l.sights.xs m c) l.notes.xs=true then match thX l c,thY l c,thH l c,zae l.sights.xs c with
 | some x,some y,some h,some t=>some ⟨x.zipWith Box.mk y,h,t⟩
 | _,_,_,_=>none else none
def TellR.told (t:TellR):Told:=⟨Sl.of t.boxes,Sl.of t.heights,Sl.of t.letters⟩
def zbx:Option TellR->PV
 | none=>.tup [.agg [.nils,.nils,.nils],.bool false]
 | some t=>.tup [.agg t.told.cells,.bool true]
theorem zb5 {on back:Nat->Span->Span} {l m:List Span} (h:zaH on back l=some m):m.length=l.length:=by
 have main:∀ (l:List Span) (k:Nat) (p:Option Span) (m:List Span),fwdS on k p l=some m->m.length=l.length:=by
  intro l
  induction l with
  | nil=>intro k p m h;simp [fwdS] at h;subst h;rfl
  | cons s r ih =>
   intro k p m h;rw [fwdS] at h
   split at h
   ·simp at h
   ·rw [Option.map_eq_some_iff] at h;obtain ⟨m',h1,rfl⟩:=h;simp [ih _ _ _ h1]
 unfold zaH at h;rw [Option.map_eq_some_iff] at h;obtain ⟨m',h1,rfl⟩:=h;rw [zav,main _ _ _ _ h1]
theorem zdo {h:Habit} {k:Int} (hh:zbq h=true):0<=farD h k/\farD h k<=1000000:=by
 simp [zbq,inB] at hh;unfold farD
 split
 ·omega
 ·split<;>omega
theorem zdP {l:Life} (hr:Right l) (c:List Int) (k:Nat) (t:Span) (ht:okSp t):zbF (onX l c k t):=by
 have:=zdo (k:=c[k]!) hr.habit;unfold okSp at ht;unfold zbF onX onD;simp only;omega
theorem zeL {l:Life} (hr:Right l) (c:List Int) (k:Nat) (t:Span) (ht:okSp t):zbF (onH l c k t)/\zbF (za9 l c k t):=by
 unfold okSp at ht;unfold onH za9
 by_cases hk:k+1 < l.sights.xs.length
 ·rw [if_pos hk,if_pos hk];have h1:=hr.yr hk;have h2:yrS l.sights.xs k=l.sights.xs[k+1].year - l.sights.xs[k].year:=by rw [yrS,getElem!_pos _ k (by omega),getElem!_pos _ (k+1) hk]
  have:=zdw hr.habit h1;rw [<- h2] at this;unfold zbF upH zcF
  split<;>(simp only;omega)
 ·rw [if_neg hk,if_neg hk];unfold zbF;omega
theorem zk3 {l:Life} {c:List Int} {x y:List Span} (hx:thX l c=some x) (hy:thY l c=some y):x.length=l.sights.xs.length/\y.length=l.sights.xs.length:=by
 have h1:=zb5 hx;have h2:=zb5 hy;simp at h1 h2;exact ⟨h1,h2⟩
theorem zl4 (n:Nat) (H:Heap) (l:Life) (c:Sl Int) (hr:Right l) (hc:c.xs.length+1=l.sights.xs.length) (hk:∀ k∈c.xs,0<=k/\k<=2) :
  zn (zg G (n+6)) H (.pure (.func 86 [])) [.pure (.agg l.cells),.pure (l.sights.pv Sight.cells 9),.pure (.func 87 []),.pure (.func 84 [.ptr false [c.pv intF 1] 0,.ptr false l.cells 0])]=some (.val (.pure (zc7 (thX l c.xs)))):=by
 refine zh (ps:=[_,_,_,_]) (caps:=[]) (by decide) ?_
 refine zec n l _ _ (·.box.x) (onX l c.xs) (onX l c.xs) (fun k=>.func 159 [.ptr false [.int .i64 (farD l.habit c.xs[k]!)] 0]) (fun k=>.func 159 [.ptr false [.int .i64 (farD l.habit c.xs[k]!)] 0]) (yrS l.sights.xs) hr.one hr.nine (fun s hs=>(hr.sp hs).1) (zdP hr _) (zdP hr _) ?_ ?_ ?_ ?_ ?_ (fun _=>rfl) (fun _=>rfl)
 ·intro k h;have:=hr.yr h;rw [wrap64 (by omega) (by omega),yrS,getElem!_pos _ k (by omega),getElem!_pos _ (k+1) h]
 ·intro H s;exact d87 _ H s.id s.year s.box.x.lo s.box.x.hi s.box.y.lo s.box.y.hi s.letters s.height.lo s.height.hi
 ·intro H k h;have h1:=d84 (n+2) H l.habit.step l.habit.place l.habit.sink l.sights l.notes c k (by omega) (by rw [getElem!_pos c.xs k (by omega)];exact hk _ (List.getElem_mem _));exact h1
 ·intro H k s h hs;exact d159 _ H s.lo s.hi _ _ hs (zdo hr.habit)
 ·intro H k s h hs;exact d159 _ H s.lo s.hi _ _ hs (zdo hr.habit)
theorem zlz (n:Nat) (H:Heap) (l:Life) (c:Sl Int) (hr:Right l) (hc:c.xs.length+1=l.sights.xs.length) (hk:∀ k∈c.xs,0<=k/\k<=2) :
  zn (zg G (n+6)) H (.pure (.func 86 [])) [.pure (.agg l.cells),.pure (l.sights.pv Sight.cells 9),.pure (.func 88 []),.pure (.func 84 [.ptr false [c.pv intF 1] 0,.ptr false l.cells 0])]=some (.val (.pure (zc7 (thY l c.xs)))):=by
 refine zh (ps:=[_,_,_,_]) (caps:=[]) (by decide) ?_
 refine zec n l _ _ (·.box.y) (onX l c.xs) (onX l c.xs) (fun k=>.func 159 [.ptr false [.int .i64 (farD l.habit c.xs[k]!)] 0]) (fun k=>.func 159 [.ptr false [.int .i64 (farD l.habit c.xs[k]!)] 0]) (yrS l.sights.xs) hr.one hr.nine (fun s hs=>(hr.sp hs).2.1) (zdP hr _) (zdP hr _) ?_ ?_ ?_ ?_ ?_ (fun _=>rfl) (fun _=>rfl)
 ·intro k h;have:=hr.yr h;rw [wrap64 (by omega) (by omega),yrS,getElem!_pos _ k (by omega),getElem!_pos _ (k+1) h]
 ·intro H s;exact d88 _ H s.id s.year s.box.x.lo s.box.x.hi s.box.y.lo s.box.y.hi s.letters s.height.lo s.height.hi
 ·intro H k h;have h1:=d84 (n+2) H l.habit.step l.habit.place l.habit.sink l.sights l.notes c k (by omega) (by rw [getElem!_pos c.xs k (by omega)];exact hk _ (List.getElem_mem _));exact h1
 ·intro H k s h hs;exact d159 _ H s.lo s.hi _ _ hs (zdo hr.habit)
 ·intro H k s h hs;exact d159 _ H s.lo s.hi _ _ hs (zdo hr.habit)
theorem zme (n:Nat) (H:Heap) (l:Life) (c:Sl Int) (hr:Right l) (hc:c.xs.length+1=l.sights.xs.length) :
  zn (zg G (n+6)) H (.pure (.func 86 [])) [.pure (.agg l.cells),.pure (l.sights.pv Sight.cells 9),.pure (.func 89 []),.pure (.func 90 [.ptr false l.cells 0,.ptr false [c.pv intF 1] 0])]=some (.val (.pure (zc7 (thH l c.xs)))):=by
 refine zh (ps:=[_,_,_,_]) (caps:=[]) (by decide) ?_
 refine zec n l _ _ (·.height) (onH l c.xs) (za9 l c.xs) (fun k=>upF l.habit c.xs[k]!) (fun k=>zdC l.habit c.xs[k]!) (yrS l.sights.xs) hr.one hr.nine (fun s hs=>(hr.sp hs).2.2.1) (fun k t h=>(zeL hr _ k t h).1) (fun k t h=>(zeL hr _ k t h).2) ?_ ?_ ?_ ?_ ?_ (fun _=>zkV ..) (fun _=>ziC ..)
 ·intro k h;have:=hr.yr h;rw [wrap64 (by omega) (by omega),yrS,getElem!_pos _ k (by omega),getElem!_pos _ (k+1) h]
 ·intro H s;exact d89 _ H s.id s.year s.box.x.lo s.box.x.hi s.box.y.lo s.box.y.hi s.letters s.height.lo s.height.hi
 ·intro H k h;have h1:=d90 (n+3) H l.habit.step l.habit.place l.habit.sink l.sights l.notes c k (by omega);exact h1
 ·intro H k s h hs;have h1:=hr.yr h;have h2:yrS l.sights.xs k=l.sights.xs[k+1].year - l.sights.xs[k].year:=by rw [yrS,getElem!_pos _ k (by omega),getElem!_pos _ (k+1) h]
  rw [<- h2] at h1;simp only [upF,onH,if_pos h]
  by_cases hk0:c.xs[k]! = 0
  ·rw [if_pos hk0,hk0];exact d121 _ H s.lo s.hi _ l.habit.step l.habit.place l.habit.sink hs hr.habit h1
  ·rw [if_neg hk0];have:=d120 (n+4) H s.lo s.hi (yrS l.sights.xs k);rw [show upH l.habit c.xs[k]! (yrS l.sights.xs k) s=⟨0,100⟩ from by rw [upH,if_neg hk0]];exact this
 ·intro H k s h hs;have h1:=hr.yr h;have h2:yrS l.sights.xs k=l.sights.xs[k+1].year - l.sights.xs[k].year:=by rw [yrS,getElem!_pos _ k (by omega),getElem!_pos _ (k+1) h]
  rw [<- h2] at h1;simp only [zdC,za9,if_pos h]
  by_cases hk0:c.xs[k]! = 0
  ·rw [if_pos hk0,hk0];exact d122 _ H s.lo s.hi _ l.habit.step l.habit.place l.habit.sink hs hr.habit h1
  ·rw [if_neg hk0];have:=d120 (n+4) H s.lo s.hi (yrS l.sights.xs k);rw [show zcF l.habit c.xs[k]! (yrS l.sights.xs k) s=⟨0,100⟩ from by rw [zcF,if_neg hk0]];exact this
theorem sh48:G.shared 48=false:=by decide
theorem e48 (n:Nat) (l:Life) (c:Sl Int) (hr:Right l) (hc:c.xs.length+1=l.sights.xs.length) (hk:∀ k∈c.xs,0<=k/\k<=2):zD G (n+7) 48 [.agg l.cells,c.pv intF 1]=some (zbx (zaQ l c.xs)):=by
 refine zo (zm _) rfl g48 rfl ?_
 have h1:=hr.one;have h9:=hr.nine;have h20:=hr.notes;have hl8:∀ s∈l.sights.xs,s.letters.length<=20:=fun s hs=>by have:=hr.sp hs;omega
 have hP:Hide (zbx (zaQ l c.xs)=zbx (if allL (fun m=>zao l.sights.xs m c.xs) l.notes.xs=true then match thX l c.xs,thY l c.xs,thH l c.xs,zae l.sights.xs c.xs with
  | some x,some y,some h,some t=>some ⟨x.zipWith Box.mk y,h,t⟩
  | _,_,_,_=>none else none)):=⟨rfl⟩
 generalize zbx (zaQ l c.xs)=P at *;have hcx:=fun H=>zl4 n H l c hr hc hk;have hcy:=fun H=>zlz n H l c hr hc hk;have hch:=fun H=>zme n H l c hr hc;have hcl:∀ H,zn (zg G (n+6)) H (.pure (.func 92 [])) [.pure (.agg l.cells),.pure (c.pv intF 1)]=some (.val (.pure (zbG (zae l.sights.xs c.xs)))):=fun H=>d92 (n+2) H l.habit.step l.habit.place l.habit.sink l.sights l.notes c hc h9 hl8;simp only [Life.cells] at hcx hcy hch hcl;(repeat' first|simp [*,zb,c48]|(apply za<;>intro _ h<;>try simp [-Nat.le_zero_eq] at h)|(show wpE 0 (zl ..) ..;refine zw ?_)|(refine zi fun v2 H2 hv2 hnx2 hget2 hnew2 hone2 hcel2=>?_))
 refine zF [(5,5),(7,7),(18,28)] (fun (i:Nat) env H=>env 18=.pure (.int .i64 i)/\i<=l.notes.xs.length/\H.get 0=.cells true [.pure .nils,.pure .nils,.pure .nils]/\Hide (allL (fun m=>zao l.sights.xs m c.xs) l.notes.xs=allL (fun m=>zao l.sights.xs m c.xs) (l.notes.xs.drop i))) (fun i=>l.notes.xs.length - i) 0 ?_ ?_ ?_ ?_
 ·decide
 ·simp
 ·simp only [zB];omega
 rintro i env H ⟨h18,hi,hg0,hn⟩;have hfit:i < 9223372036854775807:=by omega
 have hnx:=zq hg0;have hnx0:¬ (0=H.nx):=by omega
 have hnx1:0 < H.nx+1:=by omega
 have hc2:c.xs.length+1<=l.sights.xs.length:=by omega
 have hl3:l.sights.xs.length < 1000:=by omega
 have hl4:c.xs.length < 1000:=by omega
 (repeat' first|simp [*,zb]|(apply za<;>intro _ h<;>try simp [-Nat.le_zero_eq] at h)|(show wpE 0 (zl ..) ..;refine zw ?_)|(refine zi fun v2 H2 hv2 hnx2 hget2 hnew2 hone2 hcel2=>?_))
 ·have hlt:i < l.notes.xs.length:=by assumption
  have hf:zao l.sights.xs l.notes.xs[i] c.xs=true:=by assumption
  exact ⟨i+1,by omega,by simp,by omega,⟨by rw [hn.h,zaF hlt,hf];rfl⟩⟩
 ·-- a note that is not so
  have hlt:i < l.notes.xs.length:=by assumption
  have hf:zao l.sights.xs l.notes.xs[i] c.xs=false:=by assumption
  rw [hP.h,hn.h,zaF hlt,hf];rfl
 have hA:allL (fun m=>zao l.sights.xs m c.xs) l.notes.xs=true:=by rw [hn.h,zc2 (by omega)]
 have hP2:Hide (P=zbx (match thX l c.xs,thY l c.xs,thH l c.xs,zae l.sights.xs c.xs with
  | some x,some y,some h,some t=>some ⟨x.zipWith Box.mk y,h,t⟩
  | _,_,_,_=>none)):=⟨by rw [hP.h,if_pos hA]⟩
 clear hP hn hA
 cases hx:thX l c.xs with
 | none =>
  have:P=.tup [.agg [.nils,.nils,.nils],.bool false]:=by rw [hP2.h,hx];rfl
  (repeat' first|simp [*,zb,zc7]|(apply za<;>intro _ h<;>try simp [-Nat.le_zero_eq] at h)|(show wpE 0 (zl ..) ..;refine zw ?_)|(refine zi fun v2 H2 hv2 hnx2 hget2 hnew2 hone2 hcel2=>?_))
 | some x =>
  cases hy:thY l c.xs with
  | none =>
   have:P=.tup [.agg [.nils,.nils,.nils],.bool false]:=by rw [hP2.h,hx,hy];rfl
   (repeat' first|simp [*,zb,zc7]|(apply za<;>intro _ h<;>try simp [-Nat.le_zero_eq] at h)|(show wpE 0 (zl ..) ..;refine zw ?_)|(refine zi fun v2 H2 hv2 hnx2 hget2 hnew2 hone2 hcel2=>?_))
  | some y =>
   cases hh:thH l c.xs with
   | none =>
    have:P=.tup [.agg [.nils,.nils,.nils],.bool false]:=by rw [hP2.h,hx,hy,hh];rfl
    (repeat' first|simp [*,zb,zc7]|(apply za<;>intro _ h<;>try simp [-Nat.le_zero_eq] at h)|(show wpE 0 (zl ..) ..;refine zw ?_)|(refine zi fun v2 H2 hv2 hnx2 hget2 hnew2 hone2 hcel2=>?_))
   | some hs =>
    cases ht:zae l.sights.xs c.xs with
    | none =>
     have:P=.tup [.agg [.nils,.nils,.nils],.bool false]:=by rw [hP2.h,hx,hy,hh,ht];rfl
     (repeat' first|simp [*,zb,zc7,zbG]|(apply za<;>intro _ h<;>try simp [-Nat.le_zero_eq] at h)|(show wpE 0 (zl ..) ..;refine zw ?_)|(refine zi fun v2 H2 hv2 hnx2 hget2 hnew2 hone2 hcel2=>?_))
    | some t =>
     have hP3:Hide (P=zbx (some ⟨x.zipWith Box.mk y,hs,t⟩)):=⟨by rw [hP2.h,hx,hy,hh,ht]⟩
     obtain ⟨hxl,hyl⟩:=zk3 hx hy;have hhl:hs.length=l.sights.xs.length:=by have:=zb5 hh;simpa using this
     (repeat' first|simp [*,zb,zc7,zbG]|(apply za<;>intro _ h<;>try simp [-Nat.le_zero_eq] at h)|(show wpE 0 (zl ..) ..;refine zw ?_)|(refine zi fun v2 H2 hv2 hnx2 hget2 hnew2 hone2 hcel2=>?_));have hzl:(x.zipWith Box.mk y).length=l.sights.xs.length:=by simp [hxl,hyl]
     refine zF [(14,14),(76,102)] (fun (s:Nat×AV×AV) env2 H2=>env2 76=.pure (.int .i64 s.1)/\s.1<=l.sights.xs.length/\H2.get 0=.cells true [.pure .nils,.pure .nils,.pure .nils] /\
      H2.get H.nx=.cells true [s.2.1,s.2.2,.pure ((Sl.of t).pv strF 1)]/\GrowV Box.cells 4 H2 s.2.1 ((x.zipWith Box.mk y).take s.1)/\GrowV Span.cells 2 H2 s.2.2 (hs.take s.1) /\
      (∀ id,Names s.2.2 id->¬ Names s.2.1 id)/\¬ Names s.2.1 0/\¬ Names s.2.2 0/\¬ Names s.2.1 H.nx/\¬ Names s.2.2 H.nx) (fun s=>l.sights.xs.length - s.1) (0,.pure .nils,.pure .nils) ?_ ?_ ?_ ?_
     ·decide
     ·have hno:∀ id,¬ Names (.pure .nils) id:=fun id ⟨_,_,_,h⟩=>by simp at h
      simp [*,GrowV.nil]
     ·simp only [zB];omega
     rintro ⟨j,va,vb⟩ env2 H2 ⟨h76,hj,hg02,hgB,hva,hvb,hdis,hna0,hnb0,hnaB,hnbB⟩;simp only at h76 hj hgB hva hvb hdis hna0 hnb0 hnaB hnbB;have hfit2:j < 9223372036854775807:=by omega
     have hB2:=zq hgB;have h02:=zq hg02;have hB3:¬ (H.nx=H2.nx):=by omega
     have h03:¬ (0=H2.nx):=by omega
     have hB4:H.nx < H2.nx+1:=by omega
     have h04:0 < H2.nx+1:=by omega
     have hfa:=hva.1.fresh;have hfb:=hvb.1.fresh;have hjx:j < l.sights.xs.length->j < x.length:=fun h=>by omega
     have hjy:j < l.sights.xs.length->j < y.length:=fun h=>by omega
     have hjh:j < l.sights.xs.length->j < hs.length:=fun h=>by omega
     have hon1:=hva.1.one;have hon2:=hvb.1.one;clear hcx hcy hch hcl hx hy hh ht hP2;(repeat' first|simp [*,zb]|(apply za<;>intro _ h<;>try simp [-Nat.le_zero_eq] at h)|(show wpE 0 (zl ..) ..;refine zw ?_)|(refine zi fun v2 H2 hv2 hnx2 hget2 hnew2 hone2 hcel2=>?_))
     ·have hlt:j < l.sights.xs.length:=by assumption
      have hB5:H.nx < H2.nx:=by simp at hnx2;omega
      have h05:0 < H2.nx:=by omega
      obtain ⟨hvb3,hdis3⟩:=After.grow ⟨hnx2,hget2,hnew2⟩ (hvb.alloc _) hdis;have hv3:=hv2;have hnB3:¬ Names v2 H.nx:=fun h=>by have:=hnew2 _ h;simp at this<;>omega
      have hn03:¬ Names v2 0:=fun h=>by have:=hnew2 _ h;simp at this<;>omega
      have hg03:H2.get 0=.cells true [.pure .nils,.pure .nils,.pure .nils]:=by
       rw [hget2 0 (by simp<;>omega) hna0,zy h02];exact hg02
      have hfb3:=hvb3.1.fresh;have hfv3:=hv3.1.fresh;have hB6:¬ (H.nx=H2.nx):=by omega
      have h06:¬ (0=H2.nx):=by omega
      have hB7:H.nx < H2.nx+1:=by omega
      have h07:0 < H2.nx+1:=by omega
      have h0B:¬ (0=H.nx):=by omega
      clear hv2 hget2 hnew2 hnx2 hone2 hva hvb hdis;generalize v2=v3 at *;generalize H2=H3 at *;(repeat' first|simp [*,zb]|(apply za<;>intro _ h<;>try simp [-Nat.le_zero_eq] at h)|(show wpE 0 (zl ..) ..;refine zw ?_)|(refine zi fun v2 H2 hv2 hnx2 hget2 hnew2 hone2 hcel2=>?_));have hgB3:H2.get H.nx=.cells true [v3,vb,.pure ((Sl.of t).pv strF 1)]:=by
       rw [hget2 H.nx (by simp<;>omega) hnbB,zy (by simp<;>omega),zU hB5]
      have hg04:H2.get 0=.cells true [.pure .nils,.pure .nils,.pure .nils]:=by
       rw [hget2 0 (by simp<;>omega) hnb0,zy (by simp<;>omega),zu (by omega)];exact hg03
      obtain ⟨hva4,hdis4⟩:=After.grow ⟨hnx2,hget2,hnew2⟩ ((hv3.set hnB3 _).alloc _) (fun id h h'=>hdis3 id h' h);have hnB4:¬ Names v2 H.nx:=fun h=>by have:=hnew2 _ h;simp at this<;>omega
      have hn04:¬ Names v2 0:=fun h=>by have:=hnew2 _ h;simp at this<;>omega
      have hB8:H.nx < H2.nx:=zq hgB3;have e1:(H2.set H.nx (.cells true [v3,v2,.pure ((Sl.of t).pv strF 1)])).get 0=.cells true [.pure .nils,.pure .nils,.pure .nils]:=by rw [zu (by omega)];exact hg04
      refine ⟨j+1,by omega,by simp,by omega,v3,v2,?_⟩
      refine ⟨zU hB8,(hva4.set hnB3 _).cast ?_,(hv2.set hnB4 _).cast ?_,fun id h h'=>hdis4 id h' h,hn03,hn04,hnB3,hnB4⟩
      ·rw [<- zaO (by omega)];simp
      ·first|rfl|rw [zaO]
     ·have hje:j=l.sights.xs.length:=by omega
      subst hje;rw [List.take_of_length_le (by omega)] at hva hvb;have fa:FrzK (H2.set 0 (.cells true [va,vb,.pure ((Sl.of t).pv strF 1)])) false 11 (aggV [va,vb,.pure ((Sl.of t).pv strF 1)]) (.agg [(Sl.of (x.zipWith Box.mk y)).pv Box.cells 4,(Sl.of hs).pv Span.cells 2,(Sl.of t).pv strF 1]) :=
       FrzK.aggV (.cons ((hva.set hna0 _).res (fun _=>rfl)) (.cons ((hvb.set hnb0 _).res (fun _=>rfl)) (.cons (.pure _) .nil)))
      obtain ⟨ids,hids⟩:=fa;have hP4:P=.tup [.agg [(Sl.of (x.zipWith Box.mk y)).pv Box.cells 4,(Sl.of hs).pv Span.cells 2,(Sl.of t).pv strF 1],.bool true]:=hP3.h;(repeat' first|simp [*,zb]|(apply za<;>intro _ h<;>try simp [-Nat.le_zero_eq] at h)|(show wpE 0 (zl ..) ..;refine zw ?_)|(refine zi fun v2 H2 hv2 hnx2 hget2 hnew2 hone2 hcel2=>?_))
@[simp] theorem d48 (n:Nat) (H:Heap) (l_habit_step:Int) (l_habit_place:Int) (l_habit_sink:Int) (l_sights:Sl Sight) (l_notes:Sl Note) (c:Sl Int) (hr:(fun (l:Life)=>Right l) (⟨⟨l_habit_step,l_habit_place,l_habit_sink⟩,l_sights,l_notes⟩:Life)) (hc:(fun (l:Life)=>c.xs.length+1=l.sights.xs.length) (⟨⟨l_habit_step,l_habit_place,l_habit_sink⟩,l_sights,l_notes⟩:Life)) (hk:∀ k∈c.xs,0<=k/\k<=2):zn (zg G (n+7)) H (.pure (.func 48 [])) [.pure (.agg [.int .i64 l_habit_step,.int .i64 l_habit_place,.int .i64 l_habit_sink,(l_sights).pv Sight.cells 9,(l_notes).pv Note.cells 4]),.pure (c.pv intF 1)]=some (.val (.pure ((fun (l:Life)=>zbx (zaQ l c.xs)) (⟨⟨l_habit_step,l_habit_place,l_habit_sink⟩,l_sights,l_notes⟩:Life)))) :=
 zh (ps:=[_,_]) (caps:=[]) sh48 (e48 n (⟨⟨l_habit_step,l_habit_place,l_habit_sink⟩,l_sights,l_notes⟩:Life) c hr hc hk)
def za5 (l:Life):Prop:=l.sights.xs.length<=9->l.notes.xs.length<=20->∀ s∈l.sights.xs,s.letters.length<=20
def zQ (l:Life) (c:List Int):Int:=if zR l=0 then (if zbt l c=true then 0 else 50) else zR l
theorem zbU {l:Life} {c:List Int} (h:zQ l c=0):Right l/\c.length+1=l.sights.xs.length/\∀ k∈c,0<=k/\k<=2:=by
 unfold zQ at h
 split at h
 ·rename_i hc;have hr:=(za1 l).1 hc
  split at h
  ·rename_i hk;simp [zbt] at hk
   refine ⟨hr,by have:=hr.one;omega,fun k hm=>?_⟩
   have:=hk.2 k hm;simp [gapB] at this;exact this
  ·simp at h
 ·rename_i hc;exact absurd h hc
theorem sh47:G.shared 47=false:=by decide
theorem e47 (n:Nat) (l:Life) (c:Sl Int) (hs:za5 l) (hc:c.xs.length < 1000):zD G (n+6) 47 [.agg l.cells,c.pv intF 1]=some (.int .i64 (zQ l c.xs)):=by
 refine zo (zm _) rfl g47 rfl ?_
 have hl:zR l=0->l.sights.xs.length < 1000:=fun h=>by have:=((za1 l).1 h).nine;omega
 have hcc:∀ H,zn (zg G (n+5)) H (.pure (.func 29 [])) [.pure (.agg l.cells)]=some (.val (.pure (.int .i64 (zR l)))):=fun H=>d29 n H l.habit.step l.habit.place l.habit.sink l.sights l.notes hs;simp only [Life.cells] at hcc;have hP:Hide (zQ l c.xs=if zR l=0 then (if zbt l c.xs=true then 0 else 50) else zR l):=⟨rfl⟩
 generalize zQ l c.xs=P at *;(repeat' first|simp [*,zb,c47]|(apply za<;>intro _ h<;>try simp [-Nat.le_zero_eq] at h))
 all_goals (rw [hP.h];simp [*])
@[simp] theorem d47 (n:Nat) (H:Heap) (l_habit_step:Int) (l_habit_place:Int) (l_habit_sink:Int) (l_sights:Sl Sight) (l_notes:Sl Note) (c:Sl Int) (hs:(fun (l:Life)=>za5 l) (⟨⟨l_habit_step,l_habit_place,l_habit_sink⟩,l_sights,l_notes⟩:Life)) (hc:c.xs.length < 1000):zn (zg G (n+6)) H (.pure (.func 47 [])) [.pure (.agg [.int .i64 l_habit_step,.int .i64 l_habit_place,.int .i64 l_habit_sink,(l_sights).pv Sight.cells 9,(l_notes).pv Note.cells 4]),.pure (c.pv intF 1)]=some (.val (.pure ((fun (l:Life)=>.int .i64 (zQ l c.xs)) (⟨⟨l_habit_step,l_habit_place,l_habit_sink⟩,l_sights,l_notes⟩:Life)))) :=
 zh (ps:=[_,_]) (caps:=[]) sh47 (e47 n (⟨⟨l_habit_step,l_habit_place,l_habit_sink⟩,l_sights,l_notes⟩:Life) c hs hc)
def zbo (l:Life) (c:List Int):PV:=if zQ l c=0 then (match zaQ l c with
 | some t=>.tup [.agg t.told.cells,.int .i64 0]
 | none=>.tup [.agg [.nils,.nils,.nils],.int .i64 9]) else .tup [.agg [.nils,.nils,.nils],.int .i64 (zQ l c)]
theorem sh31:G.shared 31=false:=by decide
theorem e31 (n:Nat) (l:Life) (c:Sl Int) (hs:za5 l) (hc:c.xs.length < 1000):zD G (n+8) 31 [.agg l.cells,c.pv intF 1]=some (zbo l c.xs):=by
 refine zo (zm _) rfl g31 rfl ?_
 have hP:Hide (zbo l c.xs=if zQ l c.xs=0 then (match zaQ l c.xs with
  | some t=>.tup [.agg t.told.cells,.int .i64 0]
  | none=>.tup [.agg [.nils,.nils,.nils],.int .i64 9]) else .tup [.agg [.nils,.nils,.nils],.int .i64 (zQ l c.xs)]):=⟨rfl⟩
 generalize zbo l c.xs=P at *
 by_cases hg:zQ l c.xs=0
 ·obtain ⟨hr,h1,h2⟩:=zbU hg;have hct:∀ H,zn (zg G (n+7)) H (.pure (.func 48 [])) [.pure (.agg l.cells),.pure (c.pv intF 1)]=some (.val (.pure (zbx (zaQ l c.xs)))):=fun H=>d48 n H l.habit.step l.habit.place l.habit.sink l.sights l.notes c hr h1 h2;simp only [Life.cells] at hct
  cases ht:zaQ l c.xs with
  | none =>
   have hP2:P=.tup [.agg [.nils,.nils,.nils],.int .i64 9]:=by rw [hP.h,if_pos hg,ht]
   (repeat' first|simp [*,zb,c31,zbx]|(apply za<;>intro _ h<;>try simp [-Nat.le_zero_eq] at h))
  | some t =>
   have hP2:P=.tup [.agg t.told.cells,.int .i64 0]:=by rw [hP.h,if_pos hg,ht]
   (repeat' first|simp [*,zb,c31,zbx]|(apply za<;>intro _ h<;>try simp [-Nat.le_zero_eq] at h))
 ·have hP2:P=.tup [.agg [.nils,.nils,.nils],.int .i64 (zQ l c.xs)]:=by rw [hP.h,if_neg hg]
  (repeat' first|simp [*,zb,c31]|(apply za<;>intro _ h<;>try simp [-Nat.le_zero_eq] at h))
@[simp] theorem d31 (n:Nat) (H:Heap) (l_habit_step:Int) (l_habit_place:Int) (l_habit_sink:Int) (l_sights:Sl Sight) (l_notes:Sl Note) (c:Sl Int) (hs:(fun (l:Life)=>za5 l) (⟨⟨l_habit_step,l_habit_place,l_habit_sink⟩,l_sights,l_notes⟩:Life)) (hc:c.xs.length < 1000):zn (zg G (n+8)) H (.pure (.func 31 [])) [.pure (.agg [.int .i64 l_habit_step,.int .i64 l_habit_place,.int .i64 l_habit_sink,(l_sights).pv Sight.cells 9,(l_notes).pv Note.cells 4]),.pure (c.pv intF 1)]=some (.val (.pure ((fun (l:Life)=>zbo l c.xs) (⟨⟨l_habit_step,l_habit_place,l_habit_sink⟩,l_sights,l_notes⟩:Life)))) :=
 zh (ps:=[_,_]) (caps:=[]) sh31 (e31 n (⟨⟨l_habit_step,l_habit_place,l_habit_sink⟩,l_sights,l_notes⟩:Life) c hs hc)
def zib (g:TellR->PV) (l:Life) (c:List Int):PV:=if zQ l c=0 then (match zaQ l c with
 | some t=>.tup [g t,.int .i64 0]
 | none=>.tup [.nils,.int .i64 9]) else .tup [.nils,.int .i64 (zQ l c)]
theorem e20 (n:Nat) (l:Life) (c:Sl Int) (hs:za5 l) (hc:c.xs.length < 1000):zD G (n+9) 20 [.agg l.cells,c.pv intF 1]=some (zib (fun t=>(Sl.of t.letters).pv strF 1) l c.xs):=by
 refine zo (zm _) rfl g20 rfl ?_
 by_cases hg:zQ l c.xs=0
 ·cases ht:zaQ l c.xs with
  | none=>(repeat' first|simp [*,zb,c20,zbo,zib]|(apply za<;>intro _ h<;>try simp [-Nat.le_zero_eq] at h))
  | some t=>(repeat' first|simp [*,zb,c20,zbo,zib,TellR.told]|(apply za<;>intro _ h<;>try simp [-Nat.le_zero_eq] at h))
 ·(repeat' first|simp [*,zb,c20,zbo,zib]|(apply za<;>intro _ h<;>try simp [-Nat.le_zero_eq] at h))
structure Tri (H:Heap) (B K:Nat) (va vb vc:AV) (x y h:List Span):Prop where
 box:H.get B=.cells true [va,vb,vc]
 other:H.get K=.cells true [.pure .nils,.pure .nils,.pure .nils]
 ga:GrowV Span.cells 2 H va x
 gb:GrowV Span.cells 2 H vb y
 gc:GrowV Span.cells 2 H vc h
 ab:∀ id,Names va id->¬ Names vb id
 ac:∀ id,Names va id->¬ Names vc id
 bc:∀ id,Names vb id->¬ Names vc id
 aB:¬ Names va B/\¬ Names va K
 bB:¬ Names vb B/\¬ Names vb K
 cB:¬ Names vc B/\¬ Names vc K
 ne:K≠B
section
variable {H H2:Heap} {B K:Nat} {va vb vc v2:AV} {x y h:List Span} {o:AObj} {s:Span}
theorem Tri.pushA (t:Tri H B K va vb vc x y h) (hv:GrowV Span.cells 2 H2 v2 (x++[s])) (ha:After va (H.alloc o) v2 H2):Tri (H2.set B (.cells true [v2,vb,vc])) B K v2 vb vc (x++[s]) y h/\H2.get B=.cells true [va,vb,vc]:=by
 have hB:=zq t.box;have hK:=zq t.other;obtain ⟨gb,db⟩:=ha.grow (t.gb.alloc _) (fun id h h'=>t.ab id h' h);obtain ⟨gc,dc⟩:=ha.grow (t.gc.alloc _) (fun id h h'=>t.ac id h' h);have n1:¬ Names v2 B:=fun h=>by have:=ha.new _ h;simp at this;omega
 have n2:¬ Names v2 K:=fun h=>by have:=ha.new _ h;simp at this;omega
 have hB2:H2.get B=.cells true [va,vb,vc]:=by rw [ha.get B (by simp;omega) t.aB.1,zy hB];exact t.box
 have hK2:H2.get K=.cells true [.pure .nils,.pure .nils,.pure .nils]:=by rw [ha.get K (by simp;omega) t.aB.2,zy hK];exact t.other
 exact ⟨⟨zU (zq hB2),by rw [zu t.ne];exact hK2,hv.set n1 _,gb.set t.bB.1 _,gc.set t.cB.1 _,fun id h h'=>db id h' h,fun id h h'=>dc id h' h,t.bc,⟨n1,n2⟩,t.bB,t.cB,t.ne⟩,hB2⟩
theorem Tri.pushB (t:Tri H B K va vb vc x y h) (hv:GrowV Span.cells 2 H2 v2 (y++[s])) (ha:After vb (H.alloc o) v2 H2):Tri (H2.set B (.cells true [va,v2,vc])) B K va v2 vc x (y++[s]) h/\H2.get B=.cells true [va,vb,vc]:=by
 have hB:=zq t.box;have hK:=zq t.other;obtain ⟨ga,da⟩:=ha.grow (t.ga.alloc _) (fun id h h'=>t.ab id h h');obtain ⟨gc,dc⟩:=ha.grow (t.gc.alloc _) (fun id h h'=>t.bc id h' h);have n1:¬ Names v2 B:=fun h=>by have:=ha.new _ h;simp at this;omega
 have n2:¬ Names v2 K:=fun h=>by have:=ha.new _ h;simp at this;omega
 have hB2:H2.get B=.cells true [va,vb,vc]:=by rw [ha.get B (by simp;omega) t.bB.1,zy hB];exact t.box
 have hK2:H2.get K=.cells true [.pure .nils,.pure .nils,.pure .nils]:=by rw [ha.get K (by simp;omega) t.bB.2,zy hK];exact t.other
 exact ⟨⟨zU (zq hB2),by rw [zu t.ne];exact hK2,ga.set t.aB.1 _,hv.set n1 _,gc.set t.cB.1 _,da,t.ac,fun id h h'=>dc id h' h,t.aB,⟨n1,n2⟩,t.cB,t.ne⟩,hB2⟩
theorem Tri.pushC (t:Tri H B K va vb vc x y h) (hv:GrowV Span.cells 2 H2 v2 (h++[s])) (ha:After vc (H.alloc o) v2 H2):Tri (H2.set B (.cells true [va,vb,v2])) B K va vb v2 x y (h++[s])/\H2.get B=.cells true [va,vb,vc]:=by
 have hB:=zq t.box;have hK:=zq t.other;obtain ⟨ga,da⟩:=ha.grow (t.ga.alloc _) (fun id h h'=>t.ac id h h');obtain ⟨gb,db⟩:=ha.grow (t.gb.alloc _) (fun id h h'=>t.bc id h h');have n1:¬ Names v2 B:=fun h=>by have:=ha.new _ h;simp at this;omega
 have n2:¬ Names v2 K:=fun h=>by have:=ha.new _ h;simp at this;omega
 have hB2:H2.get B=.cells true [va,vb,vc]:=by rw [ha.get B (by simp;omega) t.cB.1,zy hB];exact t.box
 have hK2:H2.get K=.cells true [.pure .nils,.pure .nils,.pure .nils]:=by rw [ha.get K (by simp;omega) t.cB.2,zy hK];exact t.other
 exact ⟨⟨zU (zq hB2),by rw [zu t.ne];exact hK2,ga.set t.aB.1 _,gb.set t.bB.1 _,hv.set n1 _,t.ab,da,db,t.aB,t.bB,⟨n1,n2⟩,t.ne⟩,hB2⟩
end
def zah (on back:Nat->Span->Span) (i:Nat) (cur:List Span):List Span :=
 (cur.set (i+1) (zad cur[i+1]! (on i cur[i]!))).set i (zad cur[i]! (back i (zad cur[i+1]! (on i cur[i]!))))
def zac (on back:Nat->Span->Span):Nat->List Span->List Span
 | 0,cur=>cur
 | k+1,cur=>zah on back k (zac on back k cur)
def zaf (on back:Nat->Span->Span) (m:Nat):Nat->List Span->List Span
 | 0,cur=>cur
 | r+1,cur=>zac on back m (zaf on back m r cur)
theorem zbb (on back:Nat->Span->Span) (i:Nat) (cur:List Span):(zah on back i cur).length=cur.length:=by simp [zah]
theorem zM (on back:Nat->Span->Span):∀ (k:Nat) (cur:List Span),(zac on back k cur).length=cur.length
 | 0,_=>rfl
 | k+1,cur=>by rw [zac,zbb,zM on back k]
theorem zN (on back:Nat->Span->Span) (m:Nat):∀ (r:Nat) (cur:List Span),(zaf on back m r cur).length=cur.length
 | 0,_=>rfl
 | r+1,cur=>by rw [zaf,zM,zN on back m r]
def okL (l:List Span):Prop:=∀ s∈l,okSp s
theorem zdR {on back:Nat->Span->Span} (hw1:∀ k t,okSp t->zbF (on k t)) (hw2:∀ k t,okSp t->zbF (back k t)) {i:Nat} {cur:List Span} (hi:i+1 < cur.length) (h:okL cur):okL (zah on back i cur):=by
 have h1:okSp cur[i]! := by rw [getElem!_pos cur i (by omega)];exact h _ (List.getElem_mem _)
 have h2:okSp cur[i+1]! := by rw [getElem!_pos cur (i+1) hi];exact h _ (List.getElem_mem _)
 have h3:=zch h2 (hw1 i _ h1);have h4:=zch h1 (hw2 i _ h3);intro s hs;rcases List.mem_or_eq_of_mem_set hs with hs|rfl
 ·rcases List.mem_or_eq_of_mem_set hs with hs|rfl
  ·exact h s hs
  ·exact h3
 ·exact h4
def inH (l:List Span):Prop:=∀ s∈l,0<=s.lo/\s.hi<=100
theorem zi3 {on back:Nat->Span->Span} {i:Nat} {cur:List Span} (hi:i+1 < cur.length) (h:inH cur):inH (zah on back i cur):=by
 have h1:0<=cur[i]!.lo/\cur[i]!.hi<=100:=by rw [getElem!_pos cur i (by omega)];exact h _ (List.getElem_mem _)
 have h2:0<=cur[i+1]!.lo/\cur[i+1]!.hi<=100:=by rw [getElem!_pos cur (i+1) hi];exact h _ (List.getElem_mem _)
 intro s hs;rcases List.mem_or_eq_of_mem_set hs with hs|rfl
 ·rcases List.mem_or_eq_of_mem_set hs with hs|rfl
  ·exact h s hs
  ·simp only [zad];omega
 ·simp only [zad];omega
def narX (l:Life) (c:List Int):List Span:=zaf (onX l c) (onX l c) c.length (2*l.sights.xs.length) (l.sights.xs.map (·.box.x))
def narY (l:Life) (c:List Int):List Span:=zaf (onX l c) (onX l c) c.length (2*l.sights.xs.length) (l.sights.xs.map (·.box.y))
def narH (l:Life) (c:List Int):List Span:=zaf (onH l c) (za9 l c) c.length (2*l.sights.xs.length) (l.sights.xs.map (·.height))
theorem zhq {l:Life} {c:List Int} {X:List Span} {i:Nat} (hi:i+1 < X.length) (hc:i < c.length):zah (onX l c) (onX l c) i X =
  (X.set (i+1) (zad X[i+1] (onD (farD l.habit c[i]) X[i]))).set i (zad X[i] (onD (farD l.habit c[i]) (zad X[i+1] (onD (farD l.habit c[i]) X[i])))):=by
 simp only [zah,onX,getElem!_pos X i (by omega),getElem!_pos X (i+1) hi,getElem!_pos c i hc]
theorem zlr {l:Life} {c:List Int} {Z:List Span} {i:Nat} (hi:i+1 < Z.length) (hl:i+1 < l.sights.xs.length) (hc:i < c.length) (h0:c[i]=0):zah (onH l c) (za9 l c) i Z =
  (Z.set (i+1) ⟨max Z[i+1].lo (Z[i].lo - l.habit.sink*(l.sights.xs[i+1].year - l.sights.xs[i].year)),min Z[i+1].hi Z[i].hi⟩).set i ⟨max Z[i].lo (max Z[i+1].lo (Z[i].lo - l.habit.sink*(l.sights.xs[i+1].year - l.sights.xs[i].year))),min Z[i].hi (min Z[i+1].hi Z[i].hi+l.habit.sink*(l.sights.xs[i+1].year - l.sights.xs[i].year))⟩:=by
 simp only [zah,onH,za9,if_pos hl,getElem!_pos Z i (by omega),getElem!_pos Z (i+1) hi,getElem!_pos c i hc,h0,upH,zcF,if_true,zad,yrS,getElem!_pos l.sights.xs i (by omega),getElem!_pos l.sights.xs (i+1) hl]
theorem ziE {l:Life} {c:List Int} {Z:List Span} {i:Nat} (hi:i+1 < Z.length) (hl:i+1 < l.sights.xs.length) (hc:i < c.length) (h0:¬ c[i]=0) (hz:inH Z):zah (onH l c) (za9 l c) i Z=Z:=by
 have h1:=hz _ (List.getElem_mem (l:=Z) (n:=i) (by omega));have h2:=hz _ (List.getElem_mem (l:=Z) (n:=i+1) hi);have e:∀ s:Span,0<=s.lo/\s.hi<=100->zad s ⟨0,100⟩=s:=fun s h=>by
  simp only [zad];rw [Int.max_eq_left h.1,Int.min_eq_left h.2]
 simp only [zah,onH,za9,if_pos hl,getElem!_pos Z i (by omega),getElem!_pos Z (i+1) hi,getElem!_pos c i hc,upH,zcF,if_neg h0,e _ h1,e _ h2];rw [List.set_getElem_self,List.set_getElem_self]
theorem sh37:G.shared 37=false:=by decide
theorem e37 (n:Nat) (l:Life) (c:Sl Int) (hr:Right l) (hc:c.xs.length+1=l.sights.xs.length) (hk:∀ k∈c.xs,0<=k/\k<=2):zD G (n+3) 37 [.agg l.cells,c.pv intF 1]=some (.agg [(Sl.of (narX l c.xs)).pv Span.cells 2,(Sl.of (narY l c.xs)).pv Span.cells 2,(Sl.of (narH l c.xs)).pv Span.cells 2]):=by
 refine zo (zm _) rfl g37 rfl ?_
 have h1:=hr.one;have h9:=hr.nine;have hcl0:c.xs.length=l.sights.xs.length - 1:=by omega
 clear hc;obtain ⟨P,hPe⟩:∃ P,P=PV.agg [(Sl.of (narX l c.xs)).pv Span.cells 2,(Sl.of (narY l c.xs)).pv Span.cells 2,(Sl.of (narH l c.xs)).pv Span.cells 2]:=⟨_,rfl⟩
 rw [<- hPe];have hP:Hide _:=⟨hPe⟩
 have hcl:Hide _:=⟨hcl0⟩
 clear hPe hcl0;(repeat' first|simp [*,zb,c37]|(apply za<;>intro _ h<;>try simp [-Nat.le_zero_eq] at h)|(show wpE 0 (zl ..) ..;refine zw ?_)|(refine zi fun v2 H2 hv2 hnx2 hget2 hnew2 hone2 hcel2=>?_))
 refine zF [(6,6),(12,53)] (fun (s:Nat×AV×AV×AV) env H=>env 6=.pure (.int .i64 s.1)/\s.1<=l.sights.xs.length/\Tri H 1 0 s.2.1 s.2.2.1 s.2.2.2 ((l.sights.xs.map (·.box.x)).take s.1) ((l.sights.xs.map (·.box.y)).take s.1) ((l.sights.xs.map (·.height)).take s.1)) (fun s=>l.sights.xs.length - s.1) (0,.pure .nils,.pure .nils,.pure .nils) ?_ ?_ ?_ ?_
 ·decide
 ·have hno:∀ id,¬ Names (.pure .nils) id:=fun id ⟨_,_,_,h⟩=>by simp at h
  refine ⟨by simp,by omega,⟨by simp,by simp,GrowV.nil,GrowV.nil,GrowV.nil,fun _ h=>absurd h (hno _),fun _ h=>absurd h (hno _),fun _ h=>absurd h (hno _),⟨hno _,hno _⟩,⟨hno _,hno _⟩,⟨hno _,hno _⟩,by decide⟩⟩
 ·simp only [zB];omega
 rintro ⟨i,va,vb,vc⟩ env H ⟨h6,hi,ht⟩;simp only at h6 hi ht;have hfit:i < 9223372036854775807:=by omega
 have hbox:=ht.box;have hbx:=zq hbox;have hbn:¬ (1=H.nx):=by omega
 have hga:=ht.ga;have hfa:=hga.1.fresh;(repeat' first|simp [*,zb]|(apply za<;>intro _ h<;>try simp [-Nat.le_zero_eq] at h)|(show wpE 0 (zl ..) ..;refine zw ?_)|(refine zi fun v2 H2 hv2 hnx2 hget2 hnew2 hone2 hcel2=>?_))
 ·have hlt:i < l.sights.xs.length:=by assumption
  obtain ⟨ht2,hb2⟩:=ht.pushA hv2 ⟨hnx2,hget2,hnew2⟩;have hnx:=zq hb2;generalize v2=wa at *;generalize H2=Ha at *;have hgb2:=ht2.gb;have hfb2:=hgb2.1.fresh;have hbn2:¬ (1=Ha.nx):=by omega
  clear hv2 hget2 hnew2 hnx2 hga hfa hbox;(repeat' first|simp [*,zb]|(apply za<;>intro _ h<;>try simp [-Nat.le_zero_eq] at h)|(show wpE 0 (zl ..) ..;refine zw ?_)|(refine zi fun v2 H2 hv2 hnx2 hget2 hnew2 hone2 hcel2=>?_));obtain ⟨ht3,hb3⟩:=ht2.pushB hv2 ⟨hnx2,hget2,hnew2⟩;have hnx3:=zq hb3;generalize v2=wb at *;generalize H2=Hb at *;have hgc3:=ht3.gc;have hfc3:=hgc3.1.fresh;have hbn3:¬ (1=Hb.nx):=by omega
  clear hv2 hget2 hnew2 hnx2 hgb2 hfb2;(repeat' first|simp [*,zb]|(apply za<;>intro _ h<;>try simp [-Nat.le_zero_eq] at h)|(show wpE 0 (zl ..) ..;refine zw ?_)|(refine zi fun v2 H2 hv2 hnx2 hget2 hnew2 hone2 hcel2=>?_));obtain ⟨ht4,hb4⟩:=ht3.pushC hv2 ⟨hnx2,hget2,hnew2⟩;have hnx4:=zq hb4;generalize v2=wc at *;generalize H2=Hc at *;clear hv2 hget2 hnew2 hnx2 hgc3 hfc3;(repeat' first|simp [*,zb]|(apply za<;>intro _ h<;>try simp [-Nat.le_zero_eq] at h)|(show wpE 0 (zl ..) ..;refine zw ?_)|(refine zi fun v2 H2 hv2 hnx2 hget2 hnew2 hone2 hcel2=>?_))
  refine ⟨i+1,by omega,by simp,by omega,wa,wb,wc,?_⟩
  rw [zcU hlt,zcU hlt,zcU hlt] at ht4
  simpa using ht4
 have hie:i=l.sights.xs.length:=by omega
 subst hie;rw [List.take_of_length_le (by simp),List.take_of_length_le (by simp),List.take_of_length_le (by simp)] at ht;clear hga hfa hbox hbn;obtain ⟨ix,hvx,hgx⟩:=ht.ga.1.row (by intro e;have h:=congrArg List.length e;rw [List.length_map,List.length_nil] at h;omega);obtain ⟨iy,hvy,hgy⟩:=ht.gb.1.row (by intro e;have h:=congrArg List.length e;rw [List.length_map,List.length_nil] at h;omega);obtain ⟨ih,hvh,hgh⟩:=ht.gc.1.row (by intro e;have h:=congrArg List.length e;rw [List.length_map,List.length_nil] at h;omega);rw [List.length_map] at hvx hvy hvh;have hxy:¬ (ix=iy):=fun e=>ht.ab ix ⟨_,_,_,hvx⟩ ⟨2,0,l.sights.xs.length,by rw [hvy,<- e]⟩;have hxh:¬ (ix=ih):=fun e=>ht.ac ix ⟨_,_,_,hvx⟩ ⟨2,0,l.sights.xs.length,by rw [hvh,<- e]⟩;have hyh:¬ (iy=ih):=fun e=>ht.bc iy ⟨_,_,_,hvy⟩ ⟨2,0,l.sights.xs.length,by rw [hvh,<- e]⟩;have hyx:¬ (iy=ix):=fun e=>hxy e.symm;have hhx:¬ (ih=ix):=fun e=>hxh e.symm;have hhy:¬ (ih=iy):=fun e=>hyh e.symm;have hx1:¬ (1=ix):=fun e=>ht.aB.1 ⟨2,0,l.sights.xs.length,by rw [hvx,<- e]⟩;have hx0:¬ (0=ix):=fun e=>ht.aB.2 ⟨2,0,l.sights.xs.length,by rw [hvx,<- e]⟩;have hy1:¬ (1=iy):=fun e=>ht.bB.1 ⟨2,0,l.sights.xs.length,by rw [hvy,<- e]⟩;have hy0:¬ (0=iy):=fun e=>ht.bB.2 ⟨2,0,l.sights.xs.length,by rw [hvy,<- e]⟩;have hh1:¬ (1=ih):=fun e=>ht.cB.1 ⟨2,0,l.sights.xs.length,by rw [hvh,<- e]⟩;have hh0:¬ (0=ih):=fun e=>ht.cB.2 ⟨2,0,l.sights.xs.length,by rw [hvh,<- e]⟩;have hbox:=ht.box;have hoth:=ht.other;rw [hvx,hvy,hvh] at hbox;have hmul:IntKind.i64.wrap (2*(l.sights.xs.length:Int))=((2*l.sights.xs.length:Nat):Int):=by rw [wrap64 (by omega) (by omega)];simp
 obtain ⟨m2,hm20⟩:∃ m,m=2*l.sights.xs.length:=⟨_,rfl⟩
 rw [<- hm20] at hmul;have hm2':m2<=18:=by omega
 have hm2:Hide _:=⟨hm20⟩
 clear hm20;have okx:okL (l.sights.xs.map (·.box.x)):=fun s hs=>by obtain ⟨a,ha,rfl⟩:=List.mem_map.1 hs;exact (hr.sp ha).1
 have oky:okL (l.sights.xs.map (·.box.y)):=fun s hs=>by obtain ⟨a,ha,rfl⟩:=List.mem_map.1 hs;exact (hr.sp ha).2.1
 have okh:okL (l.sights.xs.map (·.height)):=fun s hs=>by obtain ⟨a,ha,rfl⟩:=List.mem_map.1 hs;exact (hr.sp ha).2.2.1
 have inh:inH (l.sights.xs.map (·.height)):=fun s hs=>by obtain ⟨a,ha,rfl⟩:=List.mem_map.1 hs;have:=hr.sp ha;omega
 clear ht
 refine zF [(7,10),(54,237)] (fun (s:Nat×List Span×List Span×List Span) env2 H2=>env2 7=.pure (.int .i64 s.1)/\s.1<=m2 /\
   H2.get 0=.cells true [.pure .nils,.pure .nils,.pure .nils]/\H2.get 1=.cells true [.row ix 2 0 l.sights.xs.length,.row iy 2 0 l.sights.xs.length,.row ih 2 0 l.sights.xs.length] /\
   H2.get ix=.cells true (zx Span.cells s.2.1)/\H2.get iy=.cells true (zx Span.cells s.2.2.1)/\H2.get ih=.cells true (zx Span.cells s.2.2.2) /\
   Hide (s.2.1.length=l.sights.xs.length/\s.2.2.1.length=l.sights.xs.length/\s.2.2.2.length=l.sights.xs.length/\okL s.2.1/\okL s.2.2.1/\okL s.2.2.2/\inH s.2.2.2 /\
    s.2.1=zaf (onX l c.xs) (onX l c.xs) c.xs.length s.1 (l.sights.xs.map (·.box.x))/\s.2.2.1=zaf (onX l c.xs) (onX l c.xs) c.xs.length s.1 (l.sights.xs.map (·.box.y))/\s.2.2.2=zaf (onH l c.xs) (za9 l c.xs) c.xs.length s.1 (l.sights.xs.map (·.height))))
   (fun s=>m2 - s.1) (0,l.sights.xs.map (·.box.x),l.sights.xs.map (·.box.y),l.sights.xs.map (·.height)) ?_ ?_ ?_ ?_
 ·decide
 ·refine ⟨by simp,by omega,hoth,hbox,hgx,hgy,hgh,⟨by simp,by simp,by simp,okx,oky,okh,inh,rfl,rfl,rfl⟩⟩
 ·simp only [zB];omega
 clear hoth hbox hgx hgy hgh okx oky okh inh;rintro ⟨r,X,Y,Z⟩ env2 H2 ⟨h7,hr2,hg0,hg1,hgx,hgy,hgh,hh⟩;simp only at h7 hr2 hgx hgy hgh hh;have hfit2:r < 9223372036854775807:=by omega
 obtain ⟨⟨hXl,hYl,hZl,oX,oY,oZ,iZ,eX0,eY0,eZ0⟩⟩:=hh;have eX:Hide _:=⟨eX0⟩
 have eY:Hide _:=⟨eY0⟩
 have eZ:Hide _:=⟨eZ0⟩
 clear eX0 eY0 eZ0;(repeat' first|simp [*,zb]|(apply za<;>intro _ h<;>try simp [-Nat.le_zero_eq] at h)|(show wpE 0 (zl ..) ..;refine zw ?_)|(refine zi fun v2 H2 hv2 hnx2 hget2 hnew2 hone2 hcel2=>?_))
 ·have hlt:r < m2:=by assumption
  refine zF [(8,10),(62,237)] (fun (s:Nat×List Span×List Span×List Span) env2 H2=>env2 8=.pure (.int .i64 s.1)/\s.1<=c.xs.length /\
   H2.get 0=.cells true [.pure .nils,.pure .nils,.pure .nils]/\H2.get 1=.cells true [.row ix 2 0 l.sights.xs.length,.row iy 2 0 l.sights.xs.length,.row ih 2 0 l.sights.xs.length] /\
   H2.get ix=.cells true (zx Span.cells s.2.1)/\H2.get iy=.cells true (zx Span.cells s.2.2.1)/\H2.get ih=.cells true (zx Span.cells s.2.2.2) /\
   Hide (s.2.1.length=l.sights.xs.length/\s.2.2.1.length=l.sights.xs.length/\s.2.2.2.length=l.sights.xs.length/\okL s.2.1/\okL s.2.2.1/\okL s.2.2.2/\inH s.2.2.2 /\
    s.2.1=zac (onX l c.xs) (onX l c.xs) s.1 X/\s.2.2.1=zac (onX l c.xs) (onX l c.xs) s.1 Y/\s.2.2.2=zac (onH l c.xs) (za9 l c.xs) s.1 Z))
   (fun s=>c.xs.length - s.1) (0,X,Y,Z) ?_ ?_ ?_ ?_
  ·decide
  ·refine ⟨by simp,by omega,hg0,hg1,hgx,hgy,hgh,⟨hXl,hYl,hZl,oX,oY,oZ,iZ,rfl,rfl,rfl⟩⟩
  ·have:=hcl.h;simp only [zB];omega
  clear hg0 hg1 hgx hgy hgh;rintro ⟨i,x,y,z⟩ env3 H3 ⟨h8,hi,hg0,hg1,hgx,hgy,hgh,hh⟩;simp only at h8 hi hgx hgy hgh hh;obtain ⟨⟨hxl,hyl,hzl,ox,oy,oz,iz,ex0,ey0,ez0⟩⟩:=hh;have ex:Hide _:=⟨ex0⟩
  have ey:Hide _:=⟨ey0⟩
  have ez:Hide _:=⟨ez0⟩
  clear ex0 ey0 ez0;have hfit3:i < 9223372036854775807:=by have:=hcl.h;omega
  by_cases hic:i < c.xs.length
  ·have hi1:i+1 < l.sights.xs.length:=by have:=hcl.h;omega
   have hi0:i < l.sights.xs.length:=by omega
   have hix:=zq hgx;have hiy:=zq hgy;have hih:=zq hgh;have hd:=zdo (k:=c.xs[i]) hr.habit;have o1:okSp x[i]:=ox _ (List.getElem_mem _);have o2:okSp x[i+1]:=ox _ (List.getElem_mem _);have o3:okSp y[i]:=oy _ (List.getElem_mem _);have o4:okSp y[i+1]:=oy _ (List.getElem_mem _);have o5:okSp z[i]:=oz _ (List.getElem_mem _);have o6:okSp z[i+1]:=oz _ (List.getElem_mem _);have w1:zbF (onD (farD l.habit c.xs[i]) x[i]):=by unfold okSp at o1;unfold zbF onD;simp only;omega
   have w2:zbF (onD (farD l.habit c.xs[i]) y[i]):=by unfold okSp at o3;unfold zbF onD;simp only;omega
   have o7:=zch o2 w1;have o8:=zch o4 w2;have ns:=hr.yr hi1;have hsk:=zdw hr.habit ns;have u1:IntKind.i64.wrap (l.sights.xs[i+1].year - l.sights.xs[i].year)=l.sights.xs[i+1].year - l.sights.xs[i].year:=wrap64 (by omega) (by omega);have u2:IntKind.i64.wrap (l.habit.sink*(l.sights.xs[i+1].year - l.sights.xs[i].year))=l.habit.sink*(l.sights.xs[i+1].year - l.sights.xs[i].year):=wrap64 (by omega) (by omega);have u3:IntKind.i64.wrap (z[i].lo - l.habit.sink*(l.sights.xs[i+1].year - l.sights.xs[i].year))=z[i].lo - l.habit.sink*(l.sights.xs[i+1].year - l.sights.xs[i].year):=by unfold okSp at o5;exact wrap64 (by omega) (by omega)
   have u4:IntKind.i64.wrap (min z[i+1].hi z[i].hi+l.habit.sink*(l.sights.xs[i+1].year - l.sights.xs[i].year))=min z[i+1].hi z[i].hi+l.habit.sink*(l.sights.xs[i+1].year - l.sights.xs[i].year):=by unfold okSp at o5 o6;exact wrap64 (by omega) (by omega)
   have hw1:=zdP hr c.xs;have hwH1:∀ k t,okSp t->zbF (onH l c.xs k t):=fun k t h=>(zeL hr c.xs k t h).1;have hwH2:∀ k t,okSp t->zbF (za9 l c.xs k t):=fun k t h=>(zeL hr c.xs k t h).2;have fin:Hide ((zah (onX l c.xs) (onX l c.xs) i x).length=l.sights.xs.length/\(zah (onX l c.xs) (onX l c.xs) i y).length=l.sights.xs.length/\(zah (onH l c.xs) (za9 l c.xs) i z).length=l.sights.xs.length/\okL (zah (onX l c.xs) (onX l c.xs) i x)/\okL (zah (onX l c.xs) (onX l c.xs) i y)/\okL (zah (onH l c.xs) (za9 l c.xs) i z)/\inH (zah (onH l c.xs) (za9 l c.xs) i z) /\
    zah (onX l c.xs) (onX l c.xs) i x=zac (onX l c.xs) (onX l c.xs) (i+1) X/\zah (onX l c.xs) (onX l c.xs) i y=zac (onX l c.xs) (onX l c.xs) (i+1) Y/\zah (onH l c.xs) (za9 l c.xs) i z=zac (onH l c.xs) (za9 l c.xs) (i+1) Z) :=
    ⟨by rw [zbb,hxl],by rw [zbb,hyl],by rw [zbb,hzl],zdR hw1 hw1 (by omega) ox,zdR hw1 hw1 (by omega) oy,zdR hwH1 hwH2 (by omega) oz,zi3 (by omega) iz,by rw [zac,<- ex.h],by rw [zac,<- ey.h],by rw [zac,<- ez.h]⟩
   have sx:Hide _:=⟨zhq (l:=l) (c:=c.xs) (X:=x) (i:=i) (by omega) hic⟩
   have sy:Hide _:=⟨zhq (l:=l) (c:=c.xs) (X:=y) (i:=i) (by omega) hic⟩
   have hic2:Hide _:=⟨hic⟩
   clear hw1 hwH1 hwH2;(repeat' first|simp [*,zb]|(apply za<;>intro _ h<;>try simp [-Nat.le_zero_eq] at h)|(show wpE 0 (zl ..) ..;refine zw ?_)|(refine zi fun v2 H2 hv2 hnx2 hget2 hnew2 hone2 hcel2=>?_))
   ·have h0:c.xs[i]=0:=by assumption
    exact ⟨i+1,by omega,by simp,by omega,_,by rw [sx.h,h0],_,by rw [sy.h,h0],_,by rw [zlr (by omega) hi1 hic2.h h0],fin⟩
   ·have h0:¬ c.xs[i]=0:=by assumption
    exact ⟨i+1,by omega,by simp,by omega,_,by rw [sx.h],_,by rw [sy.h],_,by rw [ziE (by omega) hi1 hic2.h h0 iz],fin⟩
  ·have hie:i=c.xs.length:=by omega
   (repeat' first|simp [*,zb]|(apply za<;>intro _ h<;>try simp [-Nat.le_zero_eq] at h)|(show wpE 0 (zl ..) ..;refine zw ?_)|(refine zi fun v2 H2 hv2 hnx2 hget2 hnew2 hone2 hcel2=>?_));exact ⟨r+1,by omega,by simp,by omega,x,rfl,y,rfl,z,rfl,⟨hxl,hyl,hzl,ox,oy,oz,iz,by rw [zaf,<- eX.h,ex.h,hie],by rw [zaf,<- eY.h,ey.h,hie],by rw [zaf,<- eZ.h,ez.h,hie]⟩⟩
 have hre:r=2*l.sights.xs.length:=by have:=hm2.h;omega
 have hne:∀ m:List Span,m.length=l.sights.xs.length->m≠[]:=fun m hm e=>by rw [e] at hm;simp at hm;omega
 have fa:FrzK (H2.set 0 (.cells true [.row ix 2 0 l.sights.xs.length,.row iy 2 0 l.sights.xs.length,.row ih 2 0 l.sights.xs.length])) false zaB (aggV [.row ix 2 0 l.sights.xs.length,.row iy 2 0 l.sights.xs.length,.row ih 2 0 l.sights.xs.length]) P:=by
  rw [hP.h];have rx:=eX.h;have ry:=eY.h;have rz:=eZ.h;rw [hre] at rx ry rz;have gx:GrowV Span.cells 2 H2 (.row ix 2 0 l.sights.xs.length) X:=⟨.inr ⟨ix,by rw [hXl],hgx⟩,fun e=>absurd e (hne X hXl)⟩
  have gy:GrowV Span.cells 2 H2 (.row iy 2 0 l.sights.xs.length) Y:=⟨.inr ⟨iy,by rw [hYl],hgy⟩,fun e=>absurd e (hne Y hYl)⟩
  have gz:GrowV Span.cells 2 H2 (.row ih 2 0 l.sights.xs.length) Z:=⟨.inr ⟨ih,by rw [hZl],hgh⟩,fun e=>absurd e (hne Z hZl)⟩
  have ex:X=narX l c.xs:=rx;have ey:Y=narY l c.xs:=ry;have ez:Z=narH l c.xs:=rz;rw [<- ex,<- ey,<- ez];have nn:∀ j,¬ 0=j->¬ Names (.row j 2 0 l.sights.xs.length) 0:=fun j hj ⟨_,_,_,h⟩=>by simp at h;omega
  exact FrzK.aggV (n:=11) (.cons ((gx.set (nn _ hx0) _).res (fun _=>rfl)) (.cons ((gy.set (nn _ hy0) _).res (fun _=>rfl)) (.cons ((gz.set (nn _ hh0) _).res (fun _=>rfl)) .nil)))
 have h02:=zq hg0;rw [zU h02]
 refine ⟨_,rfl,fa⟩
@[simp] theorem d37 (n:Nat) (H:Heap) (l_habit_step:Int) (l_habit_place:Int) (l_habit_sink:Int) (l_sights:Sl Sight) (l_notes:Sl Note) (c:Sl Int) (hr:(fun (l:Life)=>Right l) (⟨⟨l_habit_step,l_habit_place,l_habit_sink⟩,l_sights,l_notes⟩:Life)) (hc:(fun (l:Life)=>c.xs.length+1=l.sights.xs.length) (⟨⟨l_habit_step,l_habit_place,l_habit_sink⟩,l_sights,l_notes⟩:Life)) (hk:∀ k∈c.xs,0<=k/\k<=2):zn (zg G (n+3)) H (.pure (.func 37 [])) [.pure (.agg [.int .i64 l_habit_step,.int .i64 l_habit_place,.int .i64 l_habit_sink,(l_sights).pv Sight.cells 9,(l_notes).pv Note.cells 4]),.pure (c.pv intF 1)]=some (.val (.pure ((fun (l:Life)=>.agg [(Sl.of (narX l c.xs)).pv Span.cells 2,(Sl.of (narY l c.xs)).pv Span.cells 2,(Sl.of (narH l c.xs)).pv Span.cells 2]) (⟨⟨l_habit_step,l_habit_place,l_habit_sink⟩,l_sights,l_notes⟩:Life)))) :=
 zh (ps:=[_,_]) (caps:=[]) sh37 (e37 n (⟨⟨l_habit_step,l_habit_place,l_habit_sink⟩,l_sights,l_notes⟩:Life) c hr hc hk)
theorem zfn (l:Life) (c:List Int):(narX l c).length=l.sights.xs.length/\(narY l c).length=l.sights.xs.length/\(narH l c).length=l.sights.xs.length:=by
 simp [narX,narY,narH,zN]
def canS (l:Life) (c:List Int):Bool:=allL (fun m=>zao l.sights.xs m c) l.notes.xs&&((zae l.sights.xs c).isSome&&zb8 (narX l c)&&zb8 (narY l c)&&zb8 (narH l c))
theorem sh36:G.shared 36=false:=by decide
theorem e36 (n:Nat) (l:Life) (c:Sl Int) (hr:Right l) (hc:c.xs.length+1=l.sights.xs.length) (hk:∀ k∈c.xs,0<=k/\k<=2):zD G (n+6) 36 [.agg l.cells,c.pv intF 1]=some (.bool (canS l c.xs)):=by
 refine zo (zm _) rfl g36 rfl ?_
 have h9:=hr.nine;have h20:=hr.notes;have hl8:∀ s∈l.sights.xs,s.letters.length<=20:=fun s hs=>by have:=hr.sp hs;omega
 obtain ⟨P,hPe⟩:∃ P,P=canS l c.xs:=⟨_,rfl⟩
 rw [<- hPe];have hP:Hide _:=⟨hPe⟩
 clear hPe;have hcl:∀ H,zn (zg G (n+5)) H (.pure (.func 38 [])) [.pure (.agg l.cells),.pure (c.pv intF 1)]=some (.val (.pure (zbG (zae l.sights.xs c.xs)))):=fun H=>d38 n H l.habit.step l.habit.place l.habit.sink l.sights l.notes c hc h9 hl8;have hcs:∀ H,zn (zg G (n+5)) H (.pure (.func 37 [])) [.pure (.agg l.cells),.pure (c.pv intF 1)]=some (.val (.pure (.agg [(Sl.of (narX l c.xs)).pv Span.cells 2,(Sl.of (narY l c.xs)).pv Span.cells 2,(Sl.of (narH l c.xs)).pv Span.cells 2]))):=fun H=>d37 (n+2) H l.habit.step l.habit.place l.habit.sink l.sights l.notes c hr hc hk;simp only [Life.cells] at hcl hcs;have n1:(narX l c.xs).length < 1000:=by rw [(zfn l c.xs).1];omega
 have n2:(narY l c.xs).length < 1000:=by rw [(zfn l c.xs).2.1];omega
 have n3:(narH l c.xs).length < 1000:=by rw [(zfn l c.xs).2.2];omega
 (repeat' first|simp [*,zb,c36]|(apply za<;>intro _ h<;>try simp [-Nat.le_zero_eq] at h))
 refine zF [(4,6),(13,29)] (fun (i:Nat) env H=>env 5=.pure (.int .i64 i)/\i<=l.notes.xs.length/\Hide (allL (fun m=>zao l.sights.xs m c.xs) l.notes.xs=allL (fun m=>zao l.sights.xs m c.xs) (l.notes.xs.drop i))) (fun i=>l.notes.xs.length - i) 0 ?_ ?_ ?_ ?_
 ·decide
 ·simp
 ·simp only [zB];omega
 rintro i env H ⟨h5,hi,hn⟩;have hfit:i < 9223372036854775807:=by omega
 have hc2:c.xs.length+1<=l.sights.xs.length:=by omega
 have hl3:l.sights.xs.length < 1000:=by omega
 have hsome:∀ (o:Option (List (List UInt8))),zbG o=.tup [match o with|none=>.nils|some t=>(Sl.of t).pv strF 1,.bool o.isSome]:=fun o=>by cases o<;>rfl
 (repeat' first|simp [*,zb]|(apply za<;>intro _ h<;>try simp [-Nat.le_zero_eq] at h))
 ·have hlt:i < l.notes.xs.length:=by assumption
  have hf:zao l.sights.xs l.notes.xs[i] c.xs=true:=by assumption
  exact ⟨i+1,by omega,by simp,by omega,⟨by rw [hn.h,zaF hlt,hf];rfl⟩⟩
 ·have hlt:i < l.notes.xs.length:=by assumption
  have hf:zao l.sights.xs l.notes.xs[i] c.xs=false:=by assumption
  rw [hP.h,canS,hn.h,zaF hlt,hf];rfl
 all_goals
  have hA:allL (fun m=>zao l.sights.xs m c.xs) l.notes.xs=true:=by rw [hn.h,zc2 (by omega)]
  rw [hP.h,canS,hA];simp [*]
@[simp] theorem d36 (n:Nat) (H:Heap) (l_habit_step:Int) (l_habit_place:Int) (l_habit_sink:Int) (l_sights:Sl Sight) (l_notes:Sl Note) (c:Sl Int) (hr:(fun (l:Life)=>Right l) (⟨⟨l_habit_step,l_habit_place,l_habit_sink⟩,l_sights,l_notes⟩:Life)) (hc:(fun (l:Life)=>c.xs.length+1=l.sights.xs.length) (⟨⟨l_habit_step,l_habit_place,l_habit_sink⟩,l_sights,l_notes⟩:Life)) (hk:∀ k∈c.xs,0<=k/\k<=2):zn (zg G (n+6)) H (.pure (.func 36 [])) [.pure (.agg [.int .i64 l_habit_step,.int .i64 l_habit_place,.int .i64 l_habit_sink,(l_sights).pv Sight.cells 9,(l_notes).pv Note.cells 4]),.pure (c.pv intF 1)]=some (.val (.pure ((fun (l:Life)=>.bool (canS l c.xs)) (⟨⟨l_habit_step,l_habit_place,l_habit_sink⟩,l_sights,l_notes⟩:Life)))) :=
 zh (ps:=[_,_]) (caps:=[]) sh36 (e36 n (⟨⟨l_habit_step,l_habit_place,l_habit_sink⟩,l_sights,l_notes⟩:Life) c hr hc hk)
theorem sh35:G.shared 35=false:=by decide
theorem e35 (n:Nat) (l:Life) (c:Sl Int) (hs:za5 l) (hc:c.xs.length < 1000):zD G (n+6) 35 [.agg l.cells,c.pv intF 1]=some (.int .i64 (zQ l c.xs)):=by
 refine zo (zm _) rfl g35 rfl ?_
 have hl:zR l=0->l.sights.xs.length < 1000:=fun h=>by have:=((za1 l).1 h).nine;omega
 have hcc:∀ H,zn (zg G (n+5)) H (.pure (.func 10 [])) [.pure (.agg l.cells)]=some (.val (.pure (.int .i64 (zR l)))):=fun H=>d10 n H l.habit.step l.habit.place l.habit.sink l.sights l.notes hs;simp only [Life.cells] at hcc;have hP:Hide (zQ l c.xs=if zR l=0 then (if zbt l c.xs=true then 0 else 50) else zR l):=⟨rfl⟩
 generalize zQ l c.xs=P at *;(repeat' first|simp [*,zb,c35]|(apply za<;>intro _ h<;>try simp [-Nat.le_zero_eq] at h))
 all_goals (rw [hP.h];simp [*])
@[simp] theorem d35 (n:Nat) (H:Heap) (l_habit_step:Int) (l_habit_place:Int) (l_habit_sink:Int) (l_sights:Sl Sight) (l_notes:Sl Note) (c:Sl Int) (hs:(fun (l:Life)=>za5 l) (⟨⟨l_habit_step,l_habit_place,l_habit_sink⟩,l_sights,l_notes⟩:Life)) (hc:c.xs.length < 1000):zn (zg G (n+6)) H (.pure (.func 35 [])) [.pure (.agg [.int .i64 l_habit_step,.int .i64 l_habit_place,.int .i64 l_habit_sink,(l_sights).pv Sight.cells 9,(l_notes).pv Note.cells 4]),.pure (c.pv intF 1)]=some (.val (.pure ((fun (l:Life)=>.int .i64 (zQ l c.xs)) (⟨⟨l_habit_step,l_habit_place,l_habit_sink⟩,l_sights,l_notes⟩:Life)))) :=
 zh (ps:=[_,_]) (caps:=[]) sh35 (e35 n (⟨⟨l_habit_step,l_habit_place,l_habit_sink⟩,l_sights,l_notes⟩:Life) c hs hc)
theorem sh12:G.shared 12=false:=by decide
theorem e12 (n:Nat) (l:Life) (c:Sl Int) (hs:za5 l) (hc:c.xs.length < 1000):zD G (n+7) 12 [.agg l.cells,c.pv intF 1]=some ((if zQ l c.xs=0 then .tup [.bool (canS l c.xs),.int .i64 0] else .tup [.bool false,.int .i64 (zQ l c.xs)])):=by
 refine zo (zm _) rfl g12 rfl ?_
 by_cases hg:zQ l c.xs=0
 ·obtain ⟨hr,h1,h2⟩:=zbU hg;have hct:∀ H,zn (zg G (n+6)) H (.pure (.func 36 [])) [.pure (.agg l.cells),.pure (c.pv intF 1)]=some (.val (.pure (.bool (canS l c.xs)))):=fun H=>d36 n H l.habit.step l.habit.place l.habit.sink l.sights l.notes c hr h1 h2;simp only [Life.cells] at hct;(repeat' first|simp [*,zb,c12]|(apply za<;>intro _ h<;>try simp [-Nat.le_zero_eq] at h))
 ·(repeat' first|simp [*,zb,c12]|(apply za<;>intro _ h<;>try simp [-Nat.le_zero_eq] at h))
def za0 (l:Life) (c:List Int):List PV:=if zQ l c=0 then (if canS l c=true then
  [(Sl.of ((narX l c).zipWith Box.mk (narY l c))).pv Box.cells 4,(Sl.of (narH l c)).pv Span.cells 2,(Sl.of ((zae l.sights.xs c).getD [])).pv strF 1,.int .i64 0]
  else [.nils,.nils,.nils,.int .i64 9]) else [.nils,.nils,.nils,.int .i64 (zQ l c)]
theorem sh9:G.shared 9=false:=by decide
theorem e9 (n:Nat) (l:Life) (c:Sl Int) (hs:za5 l) (hc:c.xs.length < 1000):zD G (n+7) 9 [.agg l.cells,c.pv intF 1]=some (.agg (za0 l c.xs)):=by
 refine zo (zm _) rfl g9 rfl ?_
 by_cases hg:zQ l c.xs=0
 ·obtain ⟨hr,h1,h2⟩:=zbU hg;have h9:=hr.nine;have hone:=hr.one;have hl8:∀ s∈l.sights.xs,s.letters.length<=20:=fun s hs=>by have:=hr.sp hs;omega
  have hct:∀ H,zn (zg G (n+6)) H (.pure (.func 36 [])) [.pure (.agg l.cells),.pure (c.pv intF 1)]=some (.val (.pure (.bool (canS l c.xs)))):=fun H=>d36 n H l.habit.step l.habit.place l.habit.sink l.sights l.notes c hr h1 h2;have hcl:∀ H,zn (zg G (n+6)) H (.pure (.func 38 [])) [.pure (.agg l.cells),.pure (c.pv intF 1)]=some (.val (.pure (zbG (zae l.sights.xs c.xs)))):=fun H=>d38 (n+1) H l.habit.step l.habit.place l.habit.sink l.sights l.notes c h1 h9 hl8;have hcs:∀ H,zn (zg G (n+6)) H (.pure (.func 37 [])) [.pure (.agg l.cells),.pure (c.pv intF 1)]=some (.val (.pure (.agg [(Sl.of (narX l c.xs)).pv Span.cells 2,(Sl.of (narY l c.xs)).pv Span.cells 2,(Sl.of (narH l c.xs)).pv Span.cells 2]))):=fun H=>d37 (n+3) H l.habit.step l.habit.place l.habit.sink l.sights l.notes c hr h1 h2;simp only [Life.cells] at hct hcl hcs
  by_cases hcan:canS l c.xs=true
  ·have hls:∃ t,zae l.sights.xs c.xs=some t:=by
    simp [canS] at hcan;exact Option.isSome_iff_exists.1 hcan.2.1.1.1
   obtain ⟨t,ht⟩:=hls;have hP:Hide (za0 l c.xs=[(Sl.of ((narX l c.xs).zipWith Box.mk (narY l c.xs))).pv Box.cells 4,(Sl.of (narH l c.xs)).pv Span.cells 2,(Sl.of t).pv strF 1,.int .i64 0]):=⟨by rw [za0,if_pos hg,if_pos hcan,ht];rfl⟩
   obtain ⟨hxl,hyl,hzl⟩:=zfn l c.xs;generalize za0 l c.xs=P at *;have hzip:((narX l c.xs).zipWith Box.mk (narY l c.xs)).length=l.sights.xs.length:=by simp [hxl,hyl]
   generalize narX l c.xs=X at *;generalize narY l c.xs=Y at *;generalize narH l c.xs=Z at *;(repeat' first|simp [*,zb,c9,zbG]|(apply za<;>intro _ h<;>try simp [-Nat.le_zero_eq] at h)|(show wpE 0 (zl ..) ..;refine zw ?_)|(refine zi fun v2 H2 hv2 hnx2 hget2 hnew2 hone2 hcel2=>?_))
   refine zF [(9,9),(36,58)] (fun (s:Nat×AV) env H=>env 9=.pure (.int .i64 s.1)/\s.1<=l.sights.xs.length/\H.get 0=.cells true [.pure .nils,.pure .nils,.pure .nils,.pure (.int .i64 0)] /\
    H.get 1=.cells true [.pure ((Sl.of X).pv Span.cells 2),.pure ((Sl.of Y).pv Span.cells 2),.pure ((Sl.of Z).pv Span.cells 2)] /\
    H.get 2=.cells true [s.2,.pure ((Sl.of Z).pv Span.cells 2),.pure ((Sl.of t).pv strF 1),.pure (.int .i64 0)] /\
    GrowV Box.cells 4 H s.2 ((X.zipWith Box.mk Y).take s.1)/\¬ Names s.2 0/\¬ Names s.2 1/\¬ Names s.2 2) (fun s=>l.sights.xs.length - s.1) (0,.pure .nils) ?_ ?_ ?_ ?_
   ·decide
   ·have hno:∀ id,¬ Names (.pure .nils) id:=fun id ⟨_,_,_,h⟩=>by simp at h
    simp [*,GrowV.nil]
   ·simp only [zB];omega
   rintro ⟨j,va⟩ env2 H2 ⟨h9',hj,hg0,hg1,hg2,hva,hn0,hn1,hn2⟩;simp only at h9' hj hg2 hva hn0 hn1 hn2;have hfit2:j < 9223372036854775807:=by omega
   have i2:=zq hg2;have i1:1 < H2.nx:=by omega
   have i0:0 < H2.nx:=by omega
   have j0:¬ (0=H2.nx):=by omega
   have j1:¬ (1=H2.nx):=by omega
   have j2:¬ (2=H2.nx):=by omega
   have k0:0 < H2.nx+1:=by omega
   have k1:1 < H2.nx+1:=by omega
   have k2:2 < H2.nx+1:=by omega
   have hfa:=hva.1.fresh;have hjy:j < l.sights.xs.length->j < Y.length:=fun h=>by omega
   have hon1:=hva.1.one;clear hct hcl hcs;(repeat' first|simp [*,zb]|(apply za<;>intro _ h<;>try simp [-Nat.le_zero_eq] at h)|(show wpE 0 (zl ..) ..;refine zw ?_)|(refine zi fun v2 H2 hv2 hnx2 hget2 hnew2 hone2 hcel2=>?_))
   ·have hlt:j < l.sights.xs.length:=by assumption
    have hgB:H2.get 2=.cells true [va,.pure ((Sl.of Z).pv Span.cells 2),.pure ((Sl.of t).pv strF 1),.pure (.int .i64 0)]:=by
     rw [hget2 2 (by simp<;>omega) hn2,zy i2];exact hg2
    have hg0':H2.get 0=.cells true [.pure .nils,.pure .nils,.pure .nils,.pure (.int .i64 0)]:=by
     rw [hget2 0 (by simp<;>omega) hn0,zy i0];exact hg0
    have hg1':H2.get 1=.cells true [.pure ((Sl.of X).pv Span.cells 2),.pure ((Sl.of Y).pv Span.cells 2),.pure ((Sl.of Z).pv Span.cells 2)]:=by
     rw [hget2 1 (by simp<;>omega) hn1,zy i1];exact hg1
    have m0:¬ Names v2 0:=fun h=>by have:=hnew2 _ h;simp at this<;>omega
    have m1:¬ Names v2 1:=fun h=>by have:=hnew2 _ h;simp at this<;>omega
    have m2:¬ Names v2 2:=fun h=>by have:=hnew2 _ h;simp at this<;>omega
    refine ⟨j+1,by omega,by simp,by omega,v2,?_⟩
    have hG:GrowV Box.cells 4 (H2.set 2 (.cells true [v2,.pure ((Sl.of Z).pv Span.cells 2),.pure ((Sl.of t).pv strF 1),.pure (.int .i64 0)])) v2 ((X.zipWith Box.mk Y).take (j+1)):=(hv2.set m2 _).cast (by rw [<- zaO (by omega)];simp)
    and_intros
    all_goals first
     | exact zU (zq hgB)
     | assumption
     | (rw [zu (by decide)];assumption)
     | exact hG.1
     | exact hG.2
   ·have hje:j=l.sights.xs.length:=by omega
    rw [hje,List.take_of_length_le (by omega)] at hva;rw [hP.h];exact FrzK.aggV (n:=11) (.cons ((hva.set hn0 _).res (fun _=>rfl)) (.cons (.pure _) (.cons (.pure _) (.cons (.pure _) .nil))))
  ·have hcan':canS l c.xs=false:=by simpa using hcan
   have hP:za0 l c.xs=[.nils,.nils,.nils,.int .i64 9]:=by rw [za0,if_pos hg,if_neg hcan]
   (repeat' first|simp [*,zb,c9]|(apply za<;>intro _ h<;>try simp [-Nat.le_zero_eq] at h)|(show wpE 0 (zl ..) ..;refine zw ?_)|(refine zi fun v2 H2 hv2 hnx2 hget2 hnew2 hone2 hcel2=>?_))
 ·have hP:za0 l c.xs=[.nils,.nils,.nils,.int .i64 (zQ l c.xs)]:=by rw [za0,if_neg hg]
  (repeat' first|simp [*,zb,c9]|(apply za<;>intro _ h<;>try simp [-Nat.le_zero_eq] at h)|(show wpE 0 (zl ..) ..;refine zw ?_)|(refine zi fun v2 H2 hv2 hnx2 hget2 hnew2 hone2 hcel2=>?_))
def sub (s t:Span):Prop:=t.lo<=s.lo/\s.hi<=t.hi
def full (s:Span):Prop:=s.lo<=s.hi
theorem zb1 (s:Span):sub s s:=⟨Int.le_refl _,Int.le_refl _⟩
theorem zaG {a b c:Span} (h:sub a b) (h':sub b c):sub a c:=by unfold sub at *;omega
theorem zhD {a b:Span} (h:sub a b) (h':sub b a):a=b:=by
 unfold sub at *
 cases a;cases b;simp at *;omega
theorem zdJ {a b c:Span} (h:sub a b) (h':sub a c):sub a (zad b c):=by unfold sub zad at *;simp only;omega
theorem zbg (a b:Span):sub (zad a b) a:=by unfold sub zad;simp only;omega
theorem zdx (a b:Span):sub (zad a b) b:=by unfold sub zad;simp only;omega
structure Gaps (R:Span->Prop) (on back:Nat->Span->Span):Prop where
 mon:∀ k s t,sub s t->sub (on k s) (on k t)
 mback:∀ k s t,sub s t->sub (back k s) (back k t)
 gal:∀ k f t,sub t (on k f)->sub t (on k (zad f (back k t)))
 fullM:∀ k f t,R f->full f->full t->sub t (on k f)->full (zad f (back k t))
 sub:∀ s t,R t->sub s t->R s
section
variable {R:Span->Prop} {on back:Nat->Span->Span} {l:List Span}
def fN (on:Nat->Span->Span) (l:List Span):Nat->Span
 | 0=>l[0]!
 | k+1=>zad l[k+1]! (on k (fN on l k))
theorem ziv (on:Nat->Span->Span) (l:List Span):∀ (m k:Nat),m=l.length - k->k<=l.length ->
  ((∀ i,k<=i->i < l.length->full (fN on l i))->fwdS on k (if k=0 then none else some (fN on l (k-1))) (l.drop k)=some (((List.range l.length).drop k).map (fN on l))) /\
  ((∃ i,k<=i/\i < l.length/\¬ full (fN on l i))->fwdS on k (if k=0 then none else some (fN on l (k-1))) (l.drop k)=none):=by
 intro m
 induction m with
 | zero =>
  intro k hm hk;have:k=l.length:=by omega
  subst this
  refine ⟨fun _=>?_,fun ⟨i,h1,h2,_⟩=>by omega⟩
  rw [List.drop_length,List.drop_eq_nil_of_le (by simp)];rfl
 | succ m ih =>
  intro k hm hk;have hlt:k < l.length:=by omega
  have hh:zd0 on k (if k=0 then none else some (fN on l (k-1))) l[k]=fN on l k:=by
   cases k with
   | zero=>simp [zd0,fN,getElem!_pos l 0 hlt]
   | succ k=>simp [zd0,fN,getElem!_pos l (k+1) hlt]
  have hst:=zhg (on:=on) (p:=if k=0 then none else some (fN on l (k-1))) hlt hh.symm;have ih':=ih (k+1) (by omega) (by omega);rw [if_neg (by omega),Nat.add_sub_cancel] at ih';have hr:(List.range l.length).drop k=k::(List.range l.length).drop (k+1):=by
   rw [List.drop_eq_getElem_cons (by simpa using hlt)];simp
  constructor
  ·intro hall;rw [hst,if_neg (by have:=hall k (Nat.le_refl _) hlt;unfold full at this;omega),ih'.1 (fun i h1 h2=>hall i (by omega) h2),hr];rfl
  ·rintro ⟨i,h1,h2,h3⟩;rw [hst]
   by_cases hf:(fN on l k).hi < (fN on l k).lo
   ·rw [if_pos hf]
   ·rw [if_neg hf];have hik:i≠k:=fun e=>by subst e;exact h3 (by unfold full;omega)
    rw [ih'.2 ⟨i,by omega,h2,h3⟩];rfl
def fL (on:Nat->Span->Span) (l:List Span):List Span:=(List.range l.length).map (fN on l)
theorem zd2 (on:Nat->Span->Span) (l:List Span):(fL on l).length=l.length:=by simp [fL]
theorem znd (on:Nat->Span->Span) (l:List Span) (i:Nat) (h:i < (fL on l).length):(fL on l)[i]=fN on l i:=by simp [fL]
theorem zeG (h:∀ i,i < l.length->full (fN on l i)):zaH on back l=some (bwdS back 0 (fL on l)):=by
 have:=(ziv on l l.length 0 (by omega) (by omega)).1 (fun i _ hi=>h i hi);simp only [if_true,List.drop_zero] at this;rw [zaH,this];rfl
theorem zeq (h:∃ i,i < l.length/\¬ full (fN on l i)):zaH on back l=none:=by
 obtain ⟨i,h1,h2⟩:=h;have:=(ziv on l l.length 0 (by omega) (by omega)).2 ⟨i,by omega,h1,h2⟩;simp only [if_true,List.drop_zero] at this;rw [zaH,this];rfl
theorem zeI (back:Nat->Span->Span):∀ (l:List Span) (k j:Nat),(bwdS back k l).drop j=bwdS back (k+j) (l.drop j)
 | [],k,j=>by simp [bwdS]
 | s::r,k,0=>rfl
 | s::r,k,j+1=>by
  have ih:=zeI back r (k+1) j;have e:k+1+j=k+(j+1):=by omega
  rw [e] at ih;rw [List.drop_succ_cons,<- ih,bwdS];have hl:=zav back r (k+1)
  cases hb:bwdS back (k+1) r with
  | nil=>rw [hb] at hl;simp
  | cons t r'=>rfl
def bN (back:Nat->Span->Span) (F:List Span) (i:Nat):Span:=(bwdS back 0 F)[i]!
theorem zkL {F:List Span} {j:Nat} (hj:j+1 < F.length):bN back F j=zad F[j]! (back j (bN back F (j+1))):=by
 have hl:=zav back F 0;have h1:=zeI back F 0 j;have h2:=zeI back F 0 (j+1);simp only [Nat.zero_add] at h1 h2;have h3:=zg3 (back:=back) hj;have e:∀ h,(bwdS back (j+1) (F.drop (j+1)))[0]'h=(bwdS back 0 F)[j+1]'(by omega):=fun h=>by
  have:=congrArg (fun x=>x[0]?) h2;simp only [List.getElem?_drop,Nat.add_zero] at this;rw [List.getElem?_eq_getElem (by omega),List.getElem?_eq_getElem h] at this;exact (Option.some.inj this).symm
 rw [e,<- h1] at h3;have h4:=congrArg (fun x=>x[0]?) h3;simp only [List.getElem?_drop,Nat.add_zero,List.getElem?_cons_zero] at h4;rw [List.getElem?_eq_getElem (by omega)] at h4;simp only [bN];rw [getElem!_pos (bwdS back 0 F) j (by omega),getElem!_pos (bwdS back 0 F) (j+1) (by omega),getElem!_pos F j (by omega)];exact Option.some.inj h4
theorem zkv {F:List Span} {j:Nat} (hj:j+1=F.length):bN back F j=F[j]! := by
 have hl:=zav back F 0;have h1:=zeI back F 0 j;simp only [Nat.zero_add] at h1;rw [zg0 hj] at h1;have h4:=congrArg (fun x=>x[0]?) h1;simp only [List.getElem?_drop,Nat.add_zero] at h4;simp only [bN];rw [getElem!_pos (bwdS back 0 F) j (by omega),getElem!_pos F j (by omega)];rw [List.getElem?_eq_getElem (by omega),List.getElem?_eq_getElem (by omega)] at h4;exact Option.some.inj h4
theorem zby {i j:Nat} {cur:List Span} (hi:i+1 < cur.length) (hj:j < cur.length) :
  (zah on back i cur)[j]! = if j=i then zad cur[i]! (back i (zad cur[i+1]! (on i cur[i]!))) else if j=i+1 then zad cur[i+1]! (on i cur[i]!) else cur[j]! := by
 rw [getElem!_pos _ j (by rw [zbb];exact hj)];unfold zah;rw [List.getElem_set]
 by_cases h:j=i
 ·rw [if_pos h.symm,if_pos h]
 ·rw [if_neg (fun e=>h e.symm),if_neg h,List.getElem_set]
  by_cases h2:j=i+1
  ·rw [if_pos h2.symm,if_pos h2]
  ·rw [if_neg (fun e=>h2 e.symm),if_neg h2,getElem!_pos cur j hj]
theorem zgu {cur:List Span}:∀ (k j:Nat),k < cur.length->j < cur.length->k < j->(zac on back k cur)[j]! = cur[j]! := by
 intro k
 induction k with
 | zero=>intro j _ _ _;rfl
 | succ k ih =>
  intro j hk hj hkj;rw [zac,zby (by rw [zM];omega) (by rw [zM];omega),if_neg (by omega),if_neg (by omega)];exact ih j (by omega) hj (by omega)
theorem zge {cur:List Span}:∀ (k m j:Nat),m < cur.length->k<=m->j+1=k->j < cur.length->(zac on back m cur)[j]! = (zac on back (j+1) cur)[j]! := by
 intro k m
 induction m with
 | zero=>intro j _ _ _ _;omega
 | succ m ih =>
  intro j hm hk hj hjl
  by_cases h:j=m
  ·subst h;rfl
  ·rw [zac,zby (by rw [zM];omega) (by rw [zM];omega),if_neg h,if_neg (by omega)];exact ih j (by omega) (by omega) (by omega) hjl
theorem zji (g:Gaps R on back) {b:Nat->Span} {i:Nat} {cur:List Span} (hi:i+1 < cur.length)
  (hb1:sub (b (i+1)) (on i (b i))) (hb2:sub (b i) (back i (b (i+1)))) (h:∀ j,j < cur.length->sub (b j) cur[j]!) :
  ∀ j,j < cur.length->sub (b j) (zah on back i cur)[j]! := by
 intro j hj;have h1:sub (b (i+1)) (zad cur[i+1]! (on i cur[i]!)):=zdJ (h _ hi) (zaG hb1 (g.mon _ _ _ (h _ (by omega))));rw [zby hi hj]
 split
 ·rename_i e;subst e;exact zdJ (h _ hj) (zaG hb2 (g.mback _ _ _ h1))
 ·split
  ·rename_i e;subst e;exact h1
  ·exact h j hj
theorem ziQ (g:Gaps R on back) {b:Nat->Span} {cur:List Span} {n:Nat} (hn:n=cur.length)
  (hb1:∀ i,i+1 < n->sub (b (i+1)) (on i (b i))) (hb2:∀ i,i+1 < n->sub (b i) (back i (b (i+1)))) (h:∀ j,j < n->sub (b j) cur[j]!) :
  ∀ k,k < n->∀ j,j < n->sub (b j) (zac on back k cur)[j]! := by
 intro k
 induction k with
 | zero=>intro _;exact h
 | succ k ih =>
  intro hk;have:=zji g (i:=k) (cur:=zac on back k cur) (by rw [zM];omega) (hb1 k hk) (hb2 k hk) (fun j hj=>ih (by omega) j (by rw [zM] at hj;omega));rw [zM,<- hn] at this;exact this
theorem zjX (g:Gaps R on back) {b:Nat->Span} {n m:Nat} (hn:n=l.length) (hm:m < n)
  (hb1:∀ i,i+1 < n->sub (b (i+1)) (on i (b i))) (hb2:∀ i,i+1 < n->sub (b i) (back i (b (i+1)))) (h:∀ j,j < n->sub (b j) l[j]!) :
  ∀ r,∀ j,j < n->sub (b j) (zaf on back m r l)[j]! := by
 intro r
 induction r with
 | zero=>exact h
 | succ r ih=>exact ziQ g (by rw [zN];exact hn) hb1 hb2 ih m hm
theorem zfh {i:Nat} {cur:List Span} (hi:i+1 < cur.length):∀ j,j < cur.length->sub (zah on back i cur)[j]! cur[j]! := by
 intro j hj;rw [zby hi hj]
 split
 ·rename_i e;subst e;exact zbg _ _
 ·split
  ·rename_i e;subst e;exact zbg _ _
  ·exact zb1 _
theorem zjb {cur:List Span}:∀ k,k < cur.length->∀ j,j < cur.length->sub (zac on back k cur)[j]! cur[j]! := by
 intro k
 induction k with
 | zero=>intro _ j _;exact zb1 _
 | succ k ih =>
  intro hk j hj;rw [zac];exact zaG (zfh (by rw [zM];omega) j (by rw [zM];exact hj)) (ih (by omega) j hj)
theorem zgg (g:Gaps R on back) {cur:List Span} (hl:cur.length=l.length) (h:∀ j,j < l.length->sub cur[j]! l[j]!):∀ k,k < cur.length->sub (zac on back k cur)[k]! (fN on l k):=by
 intro k
 induction k with
 | zero=>intro h0;exact h 0 (by omega)
 | succ k ih =>
  intro hk;rw [zac,zby (by rw [zM];omega) (by rw [zM];omega),if_neg (by omega),if_pos rfl,zgu k (k+1) (by omega) hk (by omega),fN];exact zdJ (zaG (zbg _ _) (h _ (by omega))) (zaG (zdx _ _) (g.mon _ _ _ (ih (by omega))))
theorem zf8:∀ r m,m < l.length->∀ j,j < l.length->sub (zaf on back m r l)[j]! l[j]! := by
 intro r m hm
 induction r with
 | zero=>intro j _;exact zb1 _
 | succ r ih =>
  intro j hj;exact zaG (zjb m (by rw [zN];exact hm) j (by rw [zN];exact hj)) (ih j hj)
theorem zim (g:Gaps R on back) {cur:List Span} (hl:cur.length=l.length) (h:∀ j,j < l.length->sub cur[j]! l[j]!) {m:Nat} (hm:m+1=l.length):∀ j,j < l.length->sub (zac on back m cur)[j]! (fN on l j):=by
 intro j hj
 by_cases e:j=m
 ·subst e;exact zgg g hl h j (by omega)
 ·rw [zge (j+1) m j (by omega) (by omega) (by omega) (by omega),zac];exact zaG (zfh (by rw [zM];omega) j (by rw [zM];omega)) (zgg g hl h j (by omega))
theorem zkR (g:Gaps R on back) {m:Nat} (hm:m+1=l.length):∀ r,∀ i,i < l.length->l.length<=i+r->1<=r->sub (zaf on back m r l)[i]! (bN back (fL on l) i):=by
 have hFl:(fL on l).length=l.length:=zd2 on l;have hF:∀ i,i < l.length->(fL on l)[i]! = fN on l i:=fun i hi=>by rw [getElem!_pos _ i (by rw [hFl];exact hi),znd]
 intro r
 induction r with
 | zero=>intro i _ _ h;omega
 | succ r ih =>
  intro i hi hir _;have hs:=zim g (cur:=zaf on back m r l) (zN ..) (zf8 r m (by omega)) hm
  by_cases e:i=m
  ·subst e;rw [zkv (by omega),hF _ hi];exact hs i hi
  ·rw [zkL (by omega),hF _ hi]
   refine zdJ (hs i hi) ?_
   rw [zaf,zge (i+1) m i (by rw [zN];omega) (by omega) (by omega) (by rw [zN];omega),zac,zby (by rw [zM,zN];omega) (by rw [zM,zN];omega),if_pos rfl]
   refine zaG (zdx _ _) (g.mback _ _ _ (zaG (zbg _ _) ?_))
   rw [zgu i (i+1) (by rw [zN];omega) (by rw [zN];omega) (by omega)];exact ih (i+1) (by omega) (by omega) (by omega)
theorem zjh (g:Gaps R on back) (hR:∀ s∈l,R s) {m:Nat} (hm:m+1=l.length) (hf:∀ i,i < l.length->full (fN on l i)) :
  ∀ d i,i+d=m->full (bN back (fL on l) i)/\sub (bN back (fL on l) i) (fN on l i)/\(i+1 < l.length->sub (bN back (fL on l) (i+1)) (on i (bN back (fL on l) i))/\sub (bN back (fL on l) i) (back i (bN back (fL on l) (i+1)))):=by
 have hFl:(fL on l).length=l.length:=zd2 on l;have hF:∀ i,i < l.length->(fL on l)[i]! = fN on l i:=fun i hi=>by rw [getElem!_pos _ i (by rw [hFl];exact hi),znd]
 have hRl:∀ i,i < l.length->R l[i]! := fun i hi=>by rw [getElem!_pos l i hi];exact hR _ (List.getElem_mem _)
 have hRf:∀ i,i < l.length->R (fN on l i):=fun i hi=>by
  refine g.sub _ _ (hRl i hi) ?_
  cases i with
  | zero=>exact zb1 _
  | succ i=>exact zbg _ _
 intro d
 induction d with
 | zero =>
  intro i hi;have:i=m:=by omega
  subst this;rw [zkv (by omega),hF _ (by omega)];exact ⟨hf _ (by omega),zb1 _,fun h=>by omega⟩
 | succ d ih =>
  intro i hi;obtain ⟨h1,h2,_⟩:=ih (i+1) (by omega);have h3:sub (bN back (fL on l) (i+1)) (on i (fN on l i)):=zaG h2 (by rw [fN];exact zdx _ _);rw [zkL (j:=i) (by omega),hF _ (by omega)];exact ⟨g.fullM i _ _ (hRf i (by omega)) (hf i (by omega)) h1 h3,zbg _ _,fun _=>⟨g.gal i _ _ h3,zdx _ _⟩⟩
theorem zir (g:Gaps R on back) (hR:∀ s∈l,R s) {m r:Nat} (hm:m+1=l.length) (hr:l.length<=r) (hf:∀ i,i < l.length->full (fN on l i)) :
  zaf on back m r l=bwdS back 0 (fL on l)/\∀ s∈zaf on back m r l,full s:=by
 have hFl:(fL on l).length=l.length:=zd2 on l;have hp:=zjh g hR hm hf;have hp':∀ i,i < l.length->_:=fun i hi=>hp (m - i) i (by omega);have hfl:∀ i,i < l.length->sub (fN on l i) l[i]! := fun i _=>by
  cases i with
  | zero=>exact zb1 _
  | succ i=>exact zbg _ _
 have hlow:=zjX g (b:=bN back (fL on l)) (l:=l) rfl (m:=m) (by omega) (fun i hi=>((hp' i (by omega)).2.2 hi).1) (fun i hi=>((hp' i (by omega)).2.2 hi).2) (fun j hj=>zaG (hp' j hj).2.1 (hfl j hj)) r;have hup:=zkR g hm r;have he:∀ i,i < l.length->(zaf on back m r l)[i]! = bN back (fL on l) i:=fun i hi=>zhD (hup i hi (by omega) (by omega)) (hlow i hi);have hbl:(bwdS back 0 (fL on l)).length=l.length:=by rw [zav,hFl]
 constructor
 ·refine List.ext_getElem (by rw [zN,hbl]) fun i h1 h2=>?_
  have:=he i (by omega);rw [getElem!_pos _ i h1,bN,getElem!_pos _ i h2] at this;exact this
 ·intro s hs;obtain ⟨i,hi,rfl⟩:=List.getElem_of_mem hs;rw [zN] at hi;have:=he i hi;rw [getElem!_pos _ i (by rw [zN];exact hi)] at this;rw [this];exact (hp' i hi).1
theorem zhK (g:Gaps R on back) {m r:Nat} (hm:m+1=l.length) (hr:1<=r) (hf:∃ i,i < l.length/\¬ full (fN on l i)) :
  ¬ ∀ s∈zaf on back m r l,full s:=by
 obtain ⟨i,hi,hn⟩:=hf;intro h
 cases r with
 | zero=>omega
 | succ r =>
  have hs:=zim g (cur:=zaf on back m r l) (zN ..) (zf8 r m (by omega)) hm i hi;have h1:=h (zaf on back m (r+1) l)[i]! (by rw [getElem!_pos _ i (by rw [zN];exact hi)];exact List.getElem_mem _);rw [zaf] at h1;unfold full at *;unfold sub at hs;omega
end
end Go.Proofs.YtifmedfpnnfmoaaGreatDoor.Vm
