/- What Needs asks: fewer, Fewest, put. -/
import Derived.Test.YtifmedfpnnfmoaaGreatDoorBk18
import Derived.Test.YtifmedfpnnfmoaaGreatDoorBk19
namespace Go.Proofs.YtifmedfpnnfmoaaGreatDoor.Vm
open Go
set_option linter.unusedSimpArgs false
set_option linter.unusedVariables false
set_option maxHeartbeats 4000000
def zdH (l:Life):Option (List Int):=zY (fitP l) (l.sights.xs.length - 1) (3 ^ (l.sights.xs.length - 1))
def zaU:List Int->Int->Int->Int
 | [],_,d=>d
 | a::r,i,d=>if 0 < a then i else zaU r (i+1) d
theorem zd5 {L:List Int} {i:Nat} {d:Int} (h:i < L.length):zaU (L.drop i) i d=if 0 < L[i] then (i:Int) else zaU (L.drop (i+1)) ((i+1:Nat):Int) d:=by
 rw [List.drop_eq_getElem_cons h,zaU];simp
def byL (l:Life):List Int:=byTo (canS l) (l.sights.xs.length - 1) (3 ^ (l.sights.xs.length - 1))
def zey (l:Life):Int:=zaU (byL l) 0 l.sights.xs.length
theorem znT {l:Life} (hr:Right l):za5 l:=fun _ _ s hs=>by have:=hr.sp hs;omega
theorem sh11:G.shared 11=false:=by decide
theorem e11 (n:Nat) (l:Life) (hr:Right l):zD G (n+9) 11 [.agg l.cells]=some (.int .i64 (zey l)):=by
 refine zo (zm _) rfl g11 rfl ?_
 have h9:=hr.nine;have h1:=hr.one;have hc:∀ H,zn (zg G (n+8)) H (.pure (.func 42 [])) [.pure (.agg l.cells)]=some (.val (.pure (.agg [(Sl.mk false (byL l)).pv intF 1,.int .i64 0]))):=fun H=>by
  have:=d42 n H l.habit.step l.habit.place l.habit.sink l.sights l.notes (znT hr);simp only [if_pos ((za1 l).2 hr)] at this;exact this
 have hl:(byL l).length=l.sights.xs.length:=by rw [byL,zaV];omega
 have hP:Hide (zey l=zaU (byL l) 0 l.sights.xs.length):=⟨rfl⟩
 generalize zey l=P at *;generalize byL l=L at *;simp only [Life.cells] at hc;have hS:Hide _:=⟨hl⟩
 have hL9:L.length<=9:=by omega
 have hxs:(Sl.mk false L).xs=L:=rfl;clear hl;(repeat' first|simp [*,zb,c11]|(apply za<;>intro _ h<;>try simp [-Nat.le_zero_eq] at h))
 refine zF [(2,2),(4,4),(7,20)] (fun (i:Nat) env H=>env 4=.pure (.int .i64 i)/\i<=L.length/\H.get 0=.cells true [.pure ((Sl.mk false L).pv intF 1),.pure (.int .i64 0)]/\Hide (P=zaU (L.drop i) i l.sights.xs.length)) (fun i=>L.length - i) 0 ?_ ?_ ?_ ?_
 ·decide
 ·simp;exact hP
 ·simp only [zB];omega
 rintro i env H ⟨h4,hi,hg,hn⟩;have hfit:i < 9223372036854775807:=by omega
 (repeat' first|simp [*,zb]|(apply za<;>intro _ h<;>try simp [-Nat.le_zero_eq] at h))
 ·have hlt:i < L.length:=by assumption
  rw [hn.h,zd5 hlt,if_pos (by assumption)]
 ·have hlt:i < L.length:=by assumption
  exact ⟨i+1,by omega,by simp,by omega,⟨by rw [hn.h,zd5 hlt,if_neg (by omega)]⟩⟩
 ·rw [hn.h,List.drop_eq_nil_of_le (by omega),zaU]
end Go.Proofs.YtifmedfpnnfmoaaGreatDoor.Vm
