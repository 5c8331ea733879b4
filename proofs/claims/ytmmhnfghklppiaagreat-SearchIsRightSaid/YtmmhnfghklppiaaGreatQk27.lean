/- with, further and Decide: the program's, walked. What Count, Hull and Decide say of the solutions. Plain Lean. -/
import Derived.Test.YtmmhnfghklppiaaGreatQk26
namespace Go.Proofs.YtmmhnfghklppiaaGreat.Vm
open Go
set_option linter.unusedSimpArgs false
set_option linter.unusedVariables false
set_option maxHeartbeats 4000000
set_option maxRecDepth 4000
def zdg (f:Fact) (t:Bool):Fact:={ f with nt:=f.nt != t }
def zas (p:Problem) (f:Fact) (t:Bool):Problem:=⟨p.boxes,.mk false (p.facts.xs++[zdg f t])⟩
theorem zpv:G.shared 98=true:=by decide
theorem zlQ {n:Nat} {H:Heap} {s:Sl Fact} {k:AV->Heap->Prop} (hl:s.xs.length < 1000)
  (hk:∀ v' H',OwnV Fact.cells 9 H' v' s.xs->isNil .slice v'=some s.isNil->H.nx<=H'.nx->(∀ id,id < H.nx->H'.get id=H.get id)->(∀ id,Names v' id->H.nx<=id)->k v' H') :
  ∃ v H',Vm.call G (n+1) (.fn 98) [.pure (s.pv Fact.cells 9)] H=some (v,H')/\k v H':=by
 refine zfD (f:=Fact.cells) (sz:=9) (bytes:=72) (l:=s.xs) (b:=s.isNil) (fun _=>rfl) g98 ?_ ?_ (fun h=>?_) (fun _=>rfl) (by decide) (fun _=>rfl) ?_ hk
 ·exact zcl (f:=Fact.cells) (sz:=9) (fun _=>rfl) _
 ·simp
 ·cases s with
  | nil=>rfl
  | mk h l=>simp [Sl.isNil] at h
 ·simp only [zn];omega
theorem zgM {r:Option Eff} {H:Heap} {x:AV} {k:AV->Heap->Prop} {u} (h:∃ v H',r=some (.upd v H')/\keeps H H' x=true/\k v H'):wpE 0 (match (generalizing:=false) r with
  | some (.upd v H2)=>if keeps H H2 x=true then some (.upd v H2) else none
  | _=>none) H k u:=by
 obtain ⟨v,H',rfl,h2,h3⟩:=h;simp only [h2,if_true,zex];exact h3
theorem zfo {n f:Nat} {H:Heap} {args:List AV} {P:AV->Heap->Prop} (hs:G.shared f=true) (h:∃ v H',Vm.call G (n+1) (.fn f) args H=some (v,H')/\P v H'):∃ v H',zG (zm G (n+1)) H (.pure (.func f [])) args=some (.upd v H')/\P v H':=by
 obtain ⟨v,H',h1,h2⟩:=h
 refine ⟨v,H',?_,h2⟩
 have hs':(zm G (n+1)).shared f=true:=hs;have h1':(zm G (n+1)).run f args H=some (v,H'):=h1;simp only [zG,List.map_nil,List.append_nil,hs',if_true,h1']
theorem sh49:G.shared 49=false:=by decide
theorem e49 (n:Nat) (p:Problem) (f:Fact) (t:Bool) (hl:p.facts.xs.length < 900):zH G (n+2) 49 [.agg p.cells,.agg f.cells,.bool t]=some (.agg (zas p f t).cells):=by
 refine zy (zw _) rfl g49 rfl ?_
 obtain ⟨bs,fs⟩:=p;obtain ⟨d1,d2,d3,da,db,dc,⟨d4,d5⟩,d6⟩:=f;have hl':fs.xs.length < 900:=hl;clear hl;(repeat' first|simp [*,za,c49,Problem.cells,Fact.cells,Span.cells,zji,chunks]|(apply zb<;>intro _ h<;>try simp [-Nat.le_zero_eq] at h))
 refine zgM (zfo (n:=n) zpv (zlQ (s:=fs) (by omega) ?_))
 intro v H' hv hvn hnx hsame hnew;have hsm:=hsame 1 (by simp);have k0:H'.get 0=.cells true [.pure (bs.pv Box.cells 4),.pure (fs.pv Fact.cells 9)]:=by
  rw [hsame 0 (by simp)];simp
 have k2:H'.get 2=.cells true [.pure .nils,.pure .nils]:=by
  rw [hsame 2 (by simp)];simp
 refine ⟨?_,?_⟩
 ·unfold keeps;simp only;rw [hsm,zu (by simp)];simp [zaW,PV.plainEq]
 have n3:2 < H'.nx:=by simp at hnx;omega
 have hnw:∀ id,Names v id->2 < id:=fun id h=>by have:=hnew id h;simp at this;omega
 have hvo:=hv.one;have hvo1:=hvo.1;have hvo2:=hvo.2;have hnwH:=Hide.mk hnw;clear hnx hsame hnew hsm hnw;(repeat' first|simp [*,za]|(apply zb<;>intro _ h<;>try simp [-Nat.le_zero_eq] at h))
 refine zgS (f:=Fact.cells) (sz:=9) (l:=fs.xs) (m:=[⟨d1,d2,d3 != t,da,db,dc,⟨d4,d5⟩,d6⟩]) hv (fun _=>rfl) (by decide) (fun _=>rfl) ?_ (by simp [zn];omega) ?_
 ·simp [zN,zq,Fact.cells,Span.cells,bne]
 intro v4 H4 hv4 hnx4 hs4 hn4;have g0:H4.get 0=.cells true [.pure (bs.pv Box.cells 4),.pure (fs.pv Fact.cells 9)]:=by
  rw [hs4 0 (by omega) (fun h=>by have:=hnwH.h 0 h;omega)];exact k0
 have g2:H4.get 2=.cells true [.pure .nils,.pure .nils]:=by
  rw [hs4 2 (by omega) (fun h=>by have:=hnwH.h 2 h;omega)];exact k2
 have gn:2 < H4.nx:=by omega
 have gn0:0 < H4.nx:=by omega
 have o4:=hv4.one;have o4a:=o4.1;have o4b:=o4.2;have hlow:∀ id,Names v4 id->2 < id:=fun id h=>by
  rcases hn4 id h with h|h
  ·exact hnwH.h id h
  ·omega
 have hres:∀ o o2,FrzK ((H4.set 0 o).set 2 o2) false 11 v4 ((Sl.mk false (fs.xs++[⟨d1,d2,d3 != t,da,db,dc,⟨d4,d5⟩,d6⟩])).pv Fact.cells 9):=fun o o2=>by
  refine OwnV.mkRes (n:=9) (hv4.keep fun id ⟨n,hn⟩=>?_) (fun _=>rfl) (by simp)
  have:=hlow id ⟨_,_,_,hn⟩;rw [zh (by omega),zh (by omega)]
 obtain ⟨ids,hids⟩:=FrzK.aggV (n:=11) (FrzL.cons (FrzK.pure (bs.pv Box.cells 4)) (.cons (hres (.cells true [.pure (bs.pv Box.cells 4),v4]) (.cells true [.pure (bs.pv Box.cells 4),v4])) .nil));have hw:zas ⟨bs,fs⟩ ⟨d1,d2,d3,da,db,dc,⟨d4,d5⟩,d6⟩ t=⟨bs,.mk false (fs.xs++[⟨d1,d2,d3 != t,da,db,dc,⟨d4,d5⟩,d6⟩])⟩:=rfl;clear hv4 hres hs4 hn4 hlow hv hvn hnwH k0 k2 o4;generalize (Sl.mk false (fs.xs++[⟨d1,d2,d3 != t,da,db,dc,⟨d4,d5⟩,d6⟩]))=S at *;(repeat' first|simp [*,za]|(apply zb<;>intro _ h<;>try simp [-Nat.le_zero_eq] at h));exact ⟨ids,hids⟩
def zM (p:Problem) (f:Fact):Int:=if zX p≠0 then zX p else if zar f p.boxes.xs.length=true then (if p.facts.xs.length ≥ 60 then 2 else 0) else 1
theorem sh47:G.shared 47=false:=by decide
theorem e47 (n:Nat) (p:Problem) (f:Fact):zH G (n+4) 47 [.agg p.cells,.agg f.cells]=some (.int .i64 (zM p f)):=by
 refine zy (zw _) rfl g47 rfl ?_
 have hc:=fun H=>ze (G:=G) (n:=n+3) (H:=H) (caps:=[]) (ps:=[.agg p.cells]) sh45 (e45 n p);simp only [Problem.cells,List.map_cons,List.map_nil] at hc
 by_cases h0:zX p=0
 case neg =>
  have hr:zM p f=zX p:=by unfold zM;rw [if_pos h0]
  rw [hr];generalize zX p=c at *;clear hr;(repeat' first|simp [*,za,c47,Problem.cells,Fact.cells,Span.cells]|(apply zb<;>intro _ h<;>try simp [-Nat.le_zero_eq] at h))
 case pos =>
  have ok:=check_ok.1 h0;have nb:=ok.nb;have nf:=ok.nf;have hf:=fun H=>ze (G:=G) (n:=n+3) (H:=H) (caps:=[]) (ps:=[.agg f.cells,.int .i64 p.boxes.xs.length]) sh93 (e93 (n+1) f p.boxes.xs.length (by omega));have hr:zM p f=if zar f p.boxes.xs.length=true then (if p.facts.xs.length ≥ 60 then 2 else 0) else 1:=by unfold zM;rw [if_neg (by simp [h0])]
  rw [hr];rw [h0] at hc;simp only [Fact.cells,Span.cells,List.map_cons,List.map_nil] at hf;clear hr h0 ok
  cases hb:zar f p.boxes.xs.length with
  | false =>
   rw [hb] at hf;clear hb;(repeat' first|simp [*,za,c47,Problem.cells,Fact.cells,Span.cells]|(apply zb<;>intro _ h<;>try simp [-Nat.le_zero_eq] at h))
  | true =>
   rw [hb] at hf;clear hb
   by_cases h60:p.facts.xs.length ≥ 60
   ·have h6:(60:Int)<=p.facts.xs.length:=by omega
    (repeat' first|simp [*,za,c47,Problem.cells,Fact.cells,Span.cells]|(apply zb<;>intro _ h<;>try simp [-Nat.le_zero_eq] at h))
   ·have h6:¬ (60:Int)<=p.facts.xs.length:=by omega
    (repeat' first|simp [*,za,c47,Problem.cells,Fact.cells,Span.cells]|(apply zb<;>intro _ h<;>try simp [-Nat.le_zero_eq] at h))
def zaS (e0:Int) (D1:FoundD) (e1:Int) (D2:FoundD) (e2:Int) (D3:FoundD) (e3:Int):Int×Int :=
 if e0≠0 then (0,e0) else if e1≠0\/e2≠0\/e3≠0 then (0,2) else if D1.empty=true then (0,9) else if D3.empty=true then (2,0) else if D2.empty=true then (1,0) else (3,0)
theorem zl8 {f:Fact} {t:Bool} {n:Nat} (h:zar f n=true):zar (zdg f t) n=true:=by
 rw [zaD] at *;exact h
theorem zbV {p:Problem} {f:Fact} {t:Bool} (h:zM p f=0):CheckOk p/\CheckOk (zas p f t)/\zar f p.boxes.xs.length=true:=by
 unfold zM at h
 split at h
 ·omega
 ·rename_i h0;have ok:=check_ok.1 (by omega:zX p=0)
  split at h
  ·rename_i hb
   split at h
   ·simp at h
   ·rename_i h60
    refine ⟨ok,⟨ok.nb,?_,ok.box,fun g hg=>?_⟩,hb⟩
    ·show (p.facts.xs++[zdg f t]).length<=60;simp;omega
    ·have hg':g∈p.facts.xs++[zdg f t]:=hg;rcases List.mem_append.1 hg' with hg|hg
     ·exact ok.fact g hg
     ·simp at hg;subst hg;exact zl8 hb
  ·simp at h
theorem sh15:G.shared 15=false:=by decide
theorem e15 (n:Nat) (p:Problem) (f:Fact) (D1 D2 D3:FoundD) (e1 e2 e3:Int) (h:zM p f=0->FindOut p D1 e1/\FindOut (zas p f false) D2 e2/\FindOut (zas p f true) D3 e3):zH G (n+52) 15 [.agg p.cells,.agg f.cells]=some (.tup [.int .i64 (zaS (zM p f) D1 e1 D2 e2 D3 e3).1,.int .i64 (zaS (zM p f) D1 e1 D2 e2 D3 e3).2]):=by
 refine zy (zw _) rfl g15 rfl ?_
 have hc:=fun H=>ze (G:=G) (n:=n+51) (H:=H) (caps:=[]) (ps:=[.agg p.cells,.agg f.cells]) sh47 (e47 (n+47) p f);simp only [Problem.cells,Fact.cells,Span.cells,List.map_cons,List.map_nil] at hc
 by_cases h0:zM p f=0
 case neg =>
  have hr:zaS (zM p f) D1 e1 D2 e2 D3 e3=(0,zM p f):=by unfold zaS;rw [if_pos h0]
  rw [hr];generalize zM p f=c at *;clear hr h;(repeat' first|simp [*,za,c15,Problem.cells,Fact.cells,Span.cells]|(apply zb<;>intro _ h<;>try simp [-Nat.le_zero_eq] at h))
 case pos =>
  obtain ⟨f1,f2,f3⟩:=h h0;obtain ⟨ok,ok2,hb⟩:=zbV (t:=false) h0;obtain ⟨_,ok3,_⟩:=zbV (t:=true) h0;have nf:=ok.nf;have b1:=fun H=>ze (G:=G) (n:=n+51) (H:=H) (caps:=[]) (ps:=[.agg p.cells]) sh48 (e48 n p ok D1 e1 f1);have b2:=fun H=>ze (G:=G) (n:=n+51) (H:=H) (caps:=[]) (ps:=[.agg (zas p f false).cells]) sh48 (e48 n (zas p f false) ok2 D2 e2 f2);have b3:=fun H=>ze (G:=G) (n:=n+51) (H:=H) (caps:=[]) (ps:=[.agg (zas p f true).cells]) sh48 (e48 n (zas p f true) ok3 D3 e3 f3);have w2:=fun H=>ze (G:=G) (n:=n+51) (H:=H) (caps:=[]) (ps:=[.agg p.cells,.agg f.cells,.bool false]) sh49 (e49 (n+49) p f false (by omega));have w3:=fun H=>ze (G:=G) (n:=n+51) (H:=H) (caps:=[]) (ps:=[.agg p.cells,.agg f.cells,.bool true]) sh49 (e49 (n+49) p f true (by omega));rw [h0] at hc ⊢;have hrr:=Hide.mk (show zaS 0 D1 e1 D2 e2 D3 e3=_ from rfl);obtain ⟨q2,hq2⟩:∃ q,q=PV.agg (zas p f false).cells:=⟨_,rfl⟩
  obtain ⟨q3,hq3⟩:∃ q,q=PV.agg (zas p f true).cells:=⟨_,rfl⟩
  rw [<- hq2] at b2 w2;rw [<- hq3] at b3 w3;simp only [Problem.cells,Fact.cells,Span.cells,FoundD.cells,List.map_cons,List.map_nil] at b1 b2 b3 w2 w3;clear hq2 hq3 f1 f2 f3 ok ok2 ok3 hb h h0 hrr;obtain ⟨E1,S1⟩:=D1;obtain ⟨E2,S2⟩:=D2;obtain ⟨E3,S3⟩:=D3;unfold zaS;simp only at *;generalize (Sl.of S1)=T1 at *;generalize (Sl.of S2)=T2 at *;generalize (Sl.of S3)=T3 at *
  by_cases h1:e1=0
  ·by_cases h2:e2=0
   ·by_cases h3:e3=0
    ·subst h1 h2 h3
     cases E1<;>cases E2<;>cases E3<;>(repeat' first|simp [*,za,c15,Problem.cells,Fact.cells,Span.cells]|(apply zb<;>intro _ h<;>try simp [-Nat.le_zero_eq] at h))
    ·(repeat' first|simp [*,za,c15,Problem.cells,Fact.cells,Span.cells]|(apply zb<;>intro _ h<;>try simp [-Nat.le_zero_eq] at h))
   ·(repeat' first|simp [*,za,c15,Problem.cells,Fact.cells,Span.cells]|(apply zb<;>intro _ h<;>try simp [-Nat.le_zero_eq] at h))
  ·(repeat' first|simp [*,za,c15,Problem.cells,Fact.cells,Span.cells]|(apply zb<;>intro _ h<;>try simp [-Nat.le_zero_eq] at h))
structure HullAt (p:Problem) (i:Nat) (b:Box):Prop where
 all:∀ pts,Solv p pts->inB' pts[i]! b
 x0:∃ pts,Solv p pts/\pts[i]!.x=b.x.lo
 x1:∃ pts,Solv p pts/\pts[i]!.x=b.x.hi
 y0:∃ pts,Solv p pts/\pts[i]!.y=b.y.lo
 y1:∃ pts,Solv p pts/\pts[i]!.y=b.y.hi
theorem HullAt.unique {p:Problem} {i:Nat} {b c:Box} (h:HullAt p i b) (h':HullAt p i c):b=c:=by
 have key:∀ {b c:Box},HullAt p i b->HullAt p i c->c.x.lo<=b.x.lo/\b.x.hi<=c.x.hi/\c.y.lo<=b.y.lo/\b.y.hi<=c.y.hi:=fun {b c} h h'=>by
  obtain ⟨p0,s0,e0⟩:=h.x0;obtain ⟨p1,s1,e1⟩:=h.x1;obtain ⟨p2,s2,e2⟩:=h.y0;obtain ⟨p3,s3,e3⟩:=h.y1;have a0:=h'.all _ s0;have a1:=h'.all _ s1;have a2:=h'.all _ s2;have a3:=h'.all _ s3;unfold inB' at a0 a1 a2 a3;omega
 have k1:=key h h';have k2:=key h' h;obtain ⟨⟨b1,b2⟩,b3,b4⟩:=b;obtain ⟨⟨c1,c2⟩,c3,c4⟩:=c;simp only [Box.mk.injEq,Span.mk.injEq] at *;omega
theorem zio {pt:Nat}:∀ (ss:List SeenD) (i:Nat) (s:SeenD),s∈ss->pt∈s.part->(∀ s'∈ss,pt∈s'.part->s'=s)->(zab pt ss i).1=zg7 s (s.part.idxOf pt)
 | a::ss,i,s,hs,hp,hu=>by
  unfold zab
  by_cases h:pt∈a.part
  ·rw [if_pos h,hu a List.mem_cons_self h]
  ·rw [if_neg h];rcases List.mem_cons.1 hs with rfl|hs
   ·exact absurd hp h
   ·exact zio ss (i+1) s hs hp fun s' h'=>hu s' (List.mem_cons_of_mem _ h')
theorem FindIn.hull {p:Problem} {D:FoundD} {l:List Box} {gs:List (List Nat)} (h:FindIn p D l gs) (he:D.empty=false) {i:Nat} (hi:i < l.length):HullAt p i (zab i D.seens 0).1:=by
 obtain ⟨g,hg,hig⟩:=List.mem_flatten.1 ((h.div.all i).1 hi);have hone:=h.div.one g hg;have ho:=h.seen g hg;have hn:(zaf p.facts.xs l g).n≠0:=fun e=>by
  have:D.empty=true:=by rw [h.empty,zcz,h.seens];exact ⟨_,List.mem_map.2 ⟨g,hg,rfl⟩,e⟩
  rw [this] at he;simp at he
 have hf:(zab i D.seens 0).1=zg7 (zaf p.facts.xs l g) (g.idxOf i):=by
  rw [zio D.seens 0 (zaf p.facts.xs l g) (by rw [h.seens];exact List.mem_map.2 ⟨g,hg,rfl⟩) (by rw [ho.same];exact hig) (fun s' hs' hi'=>?_),ho.same];rw [h.seens] at hs';obtain ⟨g',hg',rfl⟩:=List.mem_map.1 hs';rw [(h.seen g' hg').same] at hi';have:g'=g:=by
   have hnd:=(List.pairwise_flatten.1 h.div.nodup).2
   refine Classical.byContradiction fun hne=>?_
   obtain ⟨a,ha,rfl⟩:=List.mem_iff_getElem.1 hg;obtain ⟨b,hb,rfl⟩:=List.mem_iff_getElem.1 hg';rcases Nat.lt_trichotomy a b with hl|hl|hl
   ·exact List.pairwise_iff_getElem.1 hnd a b ha hb hl i hig i hi' rfl
   ·subst hl;exact hne rfl
   ·exact List.pairwise_iff_getElem.1 hnd b a hb ha hl i hi' i hig rfl
  rw [this]
 rw [hf];have hk:=List.idxOf_lt_length_of_mem hig;have hgk:g[g.idxOf i]=i:=List.getElem_idxOf hk;generalize g.idxOf i=k at *;have hlen:=ho.len
 -- what stands at a side
 have side:∀ t,t < 4->∃ pts,Solv p pts/\endP (zaf p.facts.xs l g) (4*k+t) k=pts[i]! /\ ∀ pts',Solv p pts'->keyS pts[i]! t<=keyS pts'[i]! t:=fun t ht=>by
  have hj:4*k+t < (zaf p.facts.xs l g).ends.length:=by omega
  obtain ⟨c,hc,h1,h2⟩:=ho.ends hn _ hj;obtain ⟨pts,hs,hpk⟩:=h.some he hg hc;have hcl:c.length=g.length:=by rw [<- hpk];simp [pick]
  have hkc:k < c.length:=by omega
  have hck:c[k]! = pts[i]! := by
   rw [getElem!_pos c k hkc];have:c[k]=(pick pts g)[k]'(by simpa [pick] using hk):=by simp only [hpk]
   rw [this];simp only [pick,List.getElem_map,hgk]
  refine ⟨pts,hs,?_,fun pts' hs'=>?_⟩
  ·unfold endP;rw [getElem!_pos (zaf p.facts.xs l g).ends (4*k+t) hj,h1];exact hck
  ·have h3:=h2 _ (zit h.div ((zga h.nar _).1 hs') g hg);unfold keyC at h3;rw [show (4*k+t) / 4=k by omega,show (4*k+t) % 4=t by omega,hck] at h3;have hkp:k < (pick pts' g).length:=by simpa [pick] using hk
   rw [getElem!_pos (pick pts' g) k hkp] at h3;simp only [pick,List.getElem_map,hgk] at h3;exact h3
 obtain ⟨p0,s0,e0,m0⟩:=side 0 (by omega);obtain ⟨p1,s1,e1,m1⟩:=side 1 (by omega);obtain ⟨p2,s2,e2,m2⟩:=side 2 (by omega);obtain ⟨p3,s3,e3,m3⟩:=side 3 (by omega);rw [Nat.add_zero] at e0;have hb:zg7 (zaf p.facts.xs l g) k=⟨⟨p0[i]!.x,p1[i]!.x⟩,⟨p2[i]!.y,p3[i]!.y⟩⟩:=by unfold zg7;rw [e0,e1,e2,e3]
 rw [hb]
 refine ⟨fun pts hs=>?_,⟨p0,s0,rfl⟩,⟨p1,s1,rfl⟩,⟨p2,s2,rfl⟩,⟨p3,s3,rfl⟩⟩
 have a0:=m0 pts hs;have a1:=m1 pts hs;have a2:=m2 pts hs;have a3:=m3 pts hs;have k0:∀ p:Pt,keyS p 0=p.x:=fun p=>rfl;have k1:∀ p:Pt,keyS p 1=-p.x:=fun p=>rfl;have k2:∀ p:Pt,keyS p 2=p.y:=fun p=>rfl;have k3:∀ p:Pt,keyS p 3=-p.y:=fun p=>rfl;rw [k0,k0] at a0;rw [k1,k1] at a1;rw [k2,k2] at a2;rw [k3,k3] at a3;unfold inB';simp only;omega
theorem sol_with {p:Problem} {f:Fact} {t:Bool} {pts:List Pt}:Solv (zas p f t) pts↔Solv p pts/\zC (zdg f t) (pts.map atB)=false:=by
 constructor
 ·rintro ⟨h1,h2,h3⟩;have h3':∀ g∈p.facts.xs++[zdg f t],zC g (pts.map atB)=false:=h3;exact ⟨⟨h1,h2,fun g hg=>h3' g (List.mem_append_left _ hg)⟩,h3' _ (by simp)⟩
 ·rintro ⟨⟨h1,h2,h3⟩,h4⟩
  refine ⟨h1,h2,fun g hg=>?_⟩
  have hg':g∈p.facts.xs++[zdg f t]:=hg;rcases List.mem_append.1 hg' with hg|hg
  ·exact h3 g hg
  ·simp at hg;rw [hg];exact h4
theorem znM (f:Fact):zdg f false=f:=by
 obtain ⟨_,_,nt,_⟩:=f;simp [zdg]
theorem zj9 {p:Problem} (ok:CheckOk p) {pts:List Pt} (h:Solv p pts):∀ b∈pts.map atB,zay b=true:=zbP ok (zkC h.len h.inn) (zoi pts)
theorem zjh {p:Problem} (ok:CheckOk p) {f:Fact} (hf:zar f p.boxes.xs.length=true) {pts:List Pt} (h:Solv p pts):zC (zdg f true) (pts.map atB)=!zC f (pts.map atB):=by
 have hfine:zdv f (pts.map atB)=true:=by
  unfold zdv;rw [List.length_map,h.len,hf,Bool.and_true];exact List.all_eq_true.2 (zj9 ok h)
 have hb:=zqI (zhk hfine);have e:zcW (zdg f true) (pts.map atB)=zcW f (pts.map atB):=rfl;unfold zC;rw [e,hb];show (if (f.nt != true)=true then _ else _)=_
 cases f.nt<;>simp
def DecSem (p:Problem) (f:Fact) (v:Int):Prop:=(∃ pts,Solv p pts) /\
 ((v=2/\∀ pts,Solv p pts->zC f (pts.map atB)=false) \/
  (v=1/\∀ pts,Solv p pts->zC f (pts.map atB)=true) \/
  (v=3/\(∃ pts,Solv p pts/\zC f (pts.map atB)=true)/\∃ pts,Solv p pts/\zC f (pts.map atB)=false))
theorem DecSem.unique {p:Problem} {f:Fact} {v w:Int} (h:DecSem p f v) (h':DecSem p f w):v=w:=by
 obtain ⟨⟨pts,hp⟩,h⟩:=h;obtain ⟨_,h'⟩:=h';rcases h with ⟨rfl,a⟩|⟨rfl,a⟩|⟨rfl,⟨x,hx,fx⟩,y,hy,fy⟩<;>rcases h' with ⟨rfl,b⟩|⟨rfl,b⟩|⟨rfl,⟨x',hx',fx'⟩,y',hy',fy'⟩
 ·rfl
 ·have:=a _ hp;rw [b _ hp] at this;simp at this
 ·have:=a _ hx';rw [fx'] at this;simp at this
 ·have:=a _ hp;rw [b _ hp] at this;simp at this
 ·rfl
 ·have:=a _ hy';rw [fy'] at this;simp at this
 ·have:=b _ hx;rw [fx] at this;simp at this
 ·have:=b _ hy;rw [fy] at this;simp at this
 ·rfl
theorem DecSem.more {p q:Problem} {f:Fact} {v w:Int} (hs:∀ pts,Solv q pts->Solv p pts) (h:DecSem p f v) (h':DecSem q f w):v=3\/v=w:=by
 obtain ⟨_,h⟩:=h;obtain ⟨⟨pts,hp⟩,h'⟩:=h';rcases h with ⟨rfl,a⟩|⟨rfl,a⟩|⟨rfl,_⟩
 ·right;rcases h' with ⟨rfl,b⟩|⟨rfl,b⟩|⟨rfl,⟨x',hx',fx'⟩,_⟩
  ·rfl
  ·have:=a _ (hs _ hp);rw [b _ hp] at this;simp at this
  ·have:=a _ (hs _ hx');rw [fx'] at this;simp at this
 ·right;rcases h' with ⟨rfl,b⟩|⟨rfl,b⟩|⟨rfl,_,y',hy',fy'⟩
  ·have:=a _ (hs _ hp);rw [b _ hp] at this;simp at this
  ·rfl
  ·have:=a _ (hs _ hy');rw [fy'] at this;simp at this
 ·left;rfl
theorem znb {p:Problem} {f:Fact} {D1 D2 D3:FoundD} {e1 e2 e3:Int} (h:zM p f=0->FindOut p D1 e1/\FindOut (zas p f false) D2 e2/\FindOut (zas p f true) D3 e3) (h0:(zaS (zM p f) D1 e1 D2 e2 D3 e3).2=0) :
  zM p f=0/\DecSem p f (zaS (zM p f) D1 e1 D2 e2 D3 e3).1:=by
 have hf0:zM p f=0:=by
  unfold zaS at h0
  split at h0
  ·exact h0
  ·rename_i hc;exact Classical.byContradiction fun h=>hc h
 refine ⟨hf0,?_⟩
 obtain ⟨f1,f2,f3⟩:=h hf0;obtain ⟨ok,ok2,hfm⟩:=zbV (t:=false) hf0;obtain ⟨_,ok3,_⟩:=zbV (t:=true) hf0;unfold zaS at h0 ⊢;rw [if_neg (by simp [hf0])] at h0 ⊢
 by_cases he:e1≠0\/e2≠0\/e3≠0
 ·rw [if_pos he] at h0;simp at h0
 ·rw [if_neg he] at h0 ⊢;have z1:e1=0:=by omega
  have z2:e2=0:=by omega
  have z3:e3=0:=by omega
  subst z1 z2 z3;have m1:=zb0 ok f1;have m2:=zb0 ok2 f2;have m3:=zb0 ok3 f3;simp only [sol_with,znM] at m2 m3
  by_cases c1:D1.empty=true
  ·rw [if_pos c1] at h0;simp at h0
  ·rw [if_neg c1] at h0 ⊢;have hex:∃ pts,Solv p pts:=Classical.byContradiction fun hc=>c1 (m1.2 hc);have key:∀ pts,Solv p pts->(zC (zdg f true) (pts.map atB)=false↔zC f (pts.map atB)=true):=fun pts hp=>by
    rw [zjh ok hfm hp];simp
   refine ⟨hex,?_⟩
   by_cases c3:D3.empty=true
   ·rw [if_pos c3]
    refine .inl ⟨rfl,fun pts hp=>?_⟩
    cases hc:zC f (pts.map atB) with
    | false=>rfl
    | true=>exact absurd ⟨pts,hp,(key pts hp).2 hc⟩ (m3.1 c3)
   ·rw [if_neg c3]
    by_cases c2:D2.empty=true
    ·rw [if_pos c2]
     refine .inr (.inl ⟨rfl,fun pts hp=>?_⟩)
     cases hc:zC f (pts.map atB) with
     | true=>rfl
     | false=>exact absurd ⟨pts,hp,hc⟩ (m2.1 c2)
    ·rw [if_neg c2];obtain ⟨y,hy,fy⟩:∃ pts,Solv p pts/\zC f (pts.map atB)=false:=Classical.byContradiction fun hc=>c2 (m2.2 hc);obtain ⟨x,hx,fx⟩:∃ pts,Solv p pts/\zC (zdg f true) (pts.map atB)=false:=Classical.byContradiction fun hc=>c3 (m3.2 hc);exact .inr (.inr ⟨rfl,⟨x,hx,(key x hx).1 fx⟩,y,hy,fy⟩)
theorem zpi (p:Problem) (f:Fact):∃ D1 e1 D2 e2 D3 e3,(zM p f=0->FindOut p D1 e1/\FindOut (zas p f false) D2 e2/\FindOut (zas p f true) D3 e3):=by
 by_cases h:zM p f=0
 ·obtain ⟨ok,ok2,_⟩:=zbV (t:=false) h;obtain ⟨_,ok3,_⟩:=zbV (t:=true) h;obtain ⟨D1,e1,h1⟩:=zf5 ok;obtain ⟨D2,e2,h2⟩:=zf5 ok2;obtain ⟨D3,e3,h3⟩:=zf5 ok3;exact ⟨D1,e1,D2,e2,D3,e3,fun _=>⟨h1,h2,h3⟩⟩
 ·exact ⟨⟨false,[]⟩,0,⟨false,[]⟩,0,⟨false,[]⟩,0,fun hc=>absurd hc h⟩
end Go.Proofs.YtmmhnfghklppiaaGreat.Vm
