/- The chapter's examples: sanity() returns true, by the machine's own run in the kernel. StoneExamplesAsSpecified answers true on all data, for the machine of values. -/
import Derived.Test.YtifmedfpnnfmoaaGreatDoorBk15
import Derived.KernelRfl
import Derived.Test.YtifmedfpnnfmoaaGreatDoorBk21
namespace Go.Proofs.YtifmedfpnnfmoaaGreatDoor.Vm
open Go
theorem zjH:zD G 60 6 []=some (.bool true):=by kernel_rfl
set_option linter.unusedSimpArgs false
set_option linter.unusedVariables false
set_option maxHeartbeats 4000000
set_option maxRecDepth 20000
theorem zkd:G.shared 6=false:=by decide
@[simp] theorem zom (H:Heap):zn (zg G 60) H (.pure (.func 6 [])) []=some (.val (.pure (.bool true))):=zhi (ps:=[]) zkd zjH
theorem zlA (m:Nat) {p:List Int->Bool} {j:Nat} {b:List Int} (h:zY p m j=some b):chg b<=m:=((zfQ p m j).2 b h).1
theorem zlu (l:Life) (c:Sl Int):zD G 61 3 [.agg l.cells,c.pv intF 1]=some (.bool true):=by
 refine zo (n:=60) (zm _) rfl g3 rfl ?_
 have hfew:=fun H=>zh (G:=G) (n:=60) (H:=H) (caps:=[]) (ps:=[.agg l.cells]) sh5 (e5 59 l);simp only [Life.cells,List.map_cons,List.map_nil] at hfew
 by_cases hf:fewS l=true
 case neg =>
  simp only [Bool.not_eq_true] at hf;rw [hf] at hfew;clear hf;(repeat' first|simp [*,zb,c3,Life.cells]|(apply za<;>intro _ h<;>try simp [-Nat.le_zero_eq] at h))
 rw [hf] at hfew;have hs:=zkS hf;clear hf
 by_cases hc:(20:Int) < c.xs.length
 ·clear hs;(repeat' first|simp [*,zb,c3,Life.cells]|(apply za<;>intro _ h<;>try simp [-Nat.le_zero_eq] at h))
 have hc3:c.xs.length < 1000:=by omega
 have h1:=fun H=>zh (G:=G) (n:=60) (H:=H) (caps:=[]) (ps:=[.agg l.cells]) sh7 (e7 49 l hs);have h2:=fun H=>zh (G:=G) (n:=60) (H:=H) (caps:=[]) (ps:=[.agg l.cells,c.pv intF 1]) sh8 (e8 51 l c hs hc3);have h3:=fun H=>zh (G:=G) (n:=60) (H:=H) (caps:=[]) (ps:=[.agg l.cells,c.pv intF 1]) sh9 (e9 53 l c hs hc3);have h4:=fun H=>zh (G:=G) (n:=60) (H:=H) (caps:=[]) (ps:=[.agg l.cells]) sh10 (e10 55 l hs);unfold zfJ at h1;unfold za0 at h3;simp only [Life.cells,List.map_cons,List.map_nil] at h1 h2 h3 h4
 by_cases hck:zR l=0
 case neg =>
  have hg:zQ l c.xs=zR l:=by unfold zQ;rw [if_neg hck]
  have hg':¬ zQ l c.xs=0:=by rw [hg];exact hck
  have e2:exE l c=.tup [.agg [.nils,.nils,.nils,.nils],.int .i64 (zR l)]:=by unfold exE;rw [if_neg hg',hg]
  rw [if_neg hck] at h1;rw [e2] at h2;rw [if_neg hg',hg] at h3;generalize zR l=z at *;clear e2 hg hg' hs hc3;(repeat' first|simp [*,zb,c3,Life.cells]|(apply za<;>intro _ h<;>try simp [-Nat.le_zero_eq] at h))
 have hr:=(za1 l).1 hck;rw [if_pos hck] at h1;rw [hck] at h4;have h5:=fun H=>zh (G:=G) (n:=60) (H:=H) (caps:=[]) (ps:=[.agg l.cells]) sh11 (e11 51 l hr);rw [zhL hr] at h5;simp only [Life.cells,List.map_cons,List.map_nil] at h5;have hone:=hr.one;have hnine:=hr.nine
 -- what the least course is asked
 have hL:(zdH l=none)\/∃ b,zdH l=some b/\(chg b:Int) < l.sights.xs.length/\(∀ H,zn (zg G 60) H (.pure (.func 12 [])) [.pure (.agg l.cells),.pure ((Sl.mk false b).pv intF 1)]=some (.val (.pure (.tup [.bool true,.int .i64 0])))) /\
   ∀ H,zn (zg G 60) H (.pure (.func 13 [])) [.pure ((Sl.mk false b).pv intF 1)]=some (.val (.pure (.int .i64 (chg b)))):=by
  cases ho:zdH l with
  | none=>exact .inl rfl
  | some b =>
   have hb:=zbJ _ _ _ _ ho;have hch:=zlA _ ho;obtain ⟨hp,i,hi⟩:=zen _ _ _ _ ho;have hb1:b.length+1=l.sights.xs.length:=by omega
   have hb3:(Sl.mk false b).xs.length < 1000:=by show b.length < 1000;omega
   have hd:∀ k∈b,0<=k/\k<=2:=by rw [hi];exact zko _ _
   have hg:zQ l b=0:=zlR hr hb1 hd;have hcan:canS l b=true:=by rw [<- zkm hr hb1];exact hp
   refine .inr ⟨b,rfl,by omega,fun H=>?_,fun H=>?_⟩
   ·have:=zh (G:=G) (n:=60) (H:=H) (caps:=[]) (ps:=[.agg l.cells,(Sl.mk false b).pv intF 1]) sh12 (e12 53 l (Sl.mk false b) hs hb3);rw [show (Sl.mk false b).xs=b from rfl,if_pos hg,hcan] at this;exact this
   ·exact zh (G:=G) (n:=60) (H:=H) (caps:=[]) (ps:=[(Sl.mk false b).pv intF 1]) sh13 (e13 59 (Sl.mk false b) hb3)
 -- what the example is
 have hE:(∃ z,¬ z=0/\exE l c=.tup [.agg [.nils,.nils,.nils,.nils],.int .i64 z]/\za0 l c.xs=[.nils,.nils,.nils,.int .i64 z]) \/
   ∃ (x:Lived) (b1:Sl Box) (b2:Sl Span) (b3:Sl (List UInt8)),exE l c=.tup [.agg (Lived.cells x),.int .i64 0]/\za0 l c.xs=[b1.pv Box.cells 4,b2.pv Span.cells 2,b3.pv strF 1,.int .i64 0]/\(∀ H,zn (zg G 60) H (.pure (.func 14 [])) [.pure (.agg l.cells),.pure (.agg x.cells)]=some (.val (.pure (zb9 (0,true,0))))) /\
    ∀ H,zn (zg G 60) H (.pure (.func 15 [])) [.pure (x.course.pv intF 1),.pure (c.pv intF 1)]=some (.val (.pure (.bool true))):=by
  by_cases hg:zQ l c.xs=0
  case neg=>exact .inl ⟨_,hg,by unfold exE;rw [if_neg hg],by unfold za0;rw [if_neg hg]⟩
  obtain ⟨_,hcl,hd⟩:=zbU hg;have htc:=zit hr hcl
  cases ht:zaQ l c.xs with
  | none =>
   have hcan:¬ canS l c.xs=true:=fun h=>by rw [if_pos h,ht] at htc;cases htc
   exact .inl ⟨9,by omega,by unfold exE;rw [if_pos hg,ht],by unfold za0;rw [if_pos hg,if_neg hcan]⟩
  | some t =>
   have hcan:canS l c.xs=true:=Classical.byContradiction fun h=>by rw [if_neg h,ht] at htc;cases htc
   have hx:=zlk c;have hp:=zjU hg ht
   refine .inr ⟨exV t c.xs l.sights.xs.length (zbH c),_,_,_,by unfold exE;rw [if_pos hg,ht],by unfold za0;rw [if_pos hg,if_pos hcan],fun H=>?_,fun H=>?_⟩
   ·have:=zh (G:=G) (n:=60) (H:=H) (caps:=[]) (ps:=[.agg l.cells,.agg (exV t c.xs l.sights.xs.length (zbH c)).cells]) sh14 (e14 53 l (exV t c.xs l.sights.xs.length (zbH c)) hs (by show (zbH c).xs.length < 1000;rw [hx];exact hc3) (hp.light _));rw [zmS hg ht (zbH c) hx] at this;exact this
   ·exact zh (G:=G) (n:=60) (H:=H) (caps:=[]) (ps:=[(zbH c).pv intF 1,c.pv intF 1]) sh15 (e15b 59 c (zbH c) hx hc3)
 unfold za0 at hE;clear hck hs hr;generalize (if zQ l c.xs=0 then _ else _:List PV)=R at *;generalize exE l c=E at *;rcases hL with ho|⟨b,ho,hb,h6,h7⟩
 ·rw [ho] at h1 h5;clear ho;simp only at h1 h5;rcases hE with ⟨z,hz,rfl,rfl⟩|⟨x,b1,b2,b3,rfl,rfl,h8,h9⟩
  ·(repeat' first|simp [*,zb,c3,Life.cells]|(apply za<;>intro _ h<;>try simp [-Nat.le_zero_eq] at h))
  ·simp only [Life.cells,Lived.cells,List.map_cons,List.map_nil,zb9] at h2 h8;(repeat' first|simp [*,zb,c3,Life.cells,Lived.cells]|(apply za<;>intro _ h<;>try simp [-Nat.le_zero_eq] at h))
 ·rw [ho] at h1 h5;clear ho;simp only at h1 h5;simp only [Life.cells] at h6;generalize (chg b:Int)=cb at *;rcases hE with ⟨z,hz,rfl,rfl⟩|⟨x,b1,b2,b3,rfl,rfl,h8,h9⟩
  ·(repeat' first|simp [*,zb,c3,Life.cells]|(apply za<;>intro _ h<;>try simp [-Nat.le_zero_eq] at h))
  ·simp only [Life.cells,Lived.cells,List.map_cons,List.map_nil,zb9] at h2 h8;(repeat' first|simp [*,zb,c3,Life.cells,Lived.cells]|(apply za<;>intro _ h<;>try simp [-Nat.le_zero_eq] at h))
end Go.Proofs.YtifmedfpnnfmoaaGreatDoor.Vm
