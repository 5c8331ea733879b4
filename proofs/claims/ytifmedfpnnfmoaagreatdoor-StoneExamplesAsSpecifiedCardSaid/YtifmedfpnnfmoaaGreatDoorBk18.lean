/- The courses of a life, as the program yields them. What the functions compute that go through all courses. What Kinds and Courses compute: the program's, and the specification's. What the program tells of a course is what the specification tells: plain Lean. The specification's comparing, and which lives are few. The course with the fewest changes: the program's least, fewer; the specification's Fewest. -/
import Derived.Test.YtifmedfpnnfmoaaGreatDoorBk17
namespace Go.Proofs.YtifmedfpnnfmoaaGreatDoor.Vm
open Go
set_option linter.unusedSimpArgs false
set_option linter.unusedVariables false
set_option maxHeartbeats 4000000
def toC:Nat->Nat->List Int
 | 0,_=>[]
 | m+1,j=>((j % 3:Nat):Int)::toC m (j / 3)
def incC:List Int->Option (List Int)
 | []=>none
 | d::r=>if d < 2 then some ((d+1)::r) else (incC r).map (0 :: ·)
theorem zaj:∀ (m j:Nat),(toC m j).length=m
 | 0,_=>rfl
 | m+1,j=>by simp [toC,zaj m]
theorem zbR:∀ (m j:Nat),∀ k∈toC m j,0<=k/\k<=2
 | 0,_=>by simp [toC]
 | m+1,j=>by
  intro k hk;rcases List.mem_cons.1 hk with rfl|hk
  ·omega
  ·exact zbR m _ k hk
theorem ziX:∀ (m:Nat),toC m 0=List.replicate m 0
 | 0=>rfl
 | m+1=>by simp [toC,ziX m,List.replicate_succ]
theorem zdL:∀ (m j:Nat),j < 3 ^ m->incC (toC m j)=if j+1 < 3 ^ m then some (toC m (j+1)) else none
 | 0,j,h=>by
  have:¬ (j+1 < 3 ^ 0):=by simp
  rw [if_neg this];rfl
 | m+1,j,h=>by
  have hj:j / 3 < 3 ^ m:=by rw [Nat.pow_succ] at h;omega
  rw [toC,incC,zdL m _ hj]
  by_cases hd:((j % 3:Nat):Int) < 2
  ·have h1:(j+1) % 3=j % 3+1:=by omega
   have h2:(j+1) / 3=j / 3:=by omega
   have h3:j+1 < 3 ^ (m+1):=by rw [Nat.pow_succ] at h ⊢;omega
   rw [if_pos hd,if_pos h3,toC,h1,h2];simp
  ·have h1:(j+1) % 3=0:=by omega
   have h2:(j+1) / 3=j / 3+1:=by omega
   rw [if_neg hd]
   by_cases h3:j+1 < 3 ^ (m+1)
   ·have h4:j / 3+1 < 3 ^ m:=by rw [Nat.pow_succ] at h3;omega
    rw [if_pos h3,if_pos h4,toC,h1,h2];rfl
   ·have h4:¬ (j / 3+1 < 3 ^ m):=by rw [Nat.pow_succ] at h3 h;omega
    rw [if_neg h3,if_neg h4];rfl
theorem zhP {α:Type} {f:α->List PV} {sz n:Nat} (hf:∀ a,(f a).all (PV.coldN n)=true) (l:List α):PV.coldN (n+1) ((Sl.of l).pv f sz)=true:=by
 cases l with
 | nil=>rfl
 | cons a l=>simp [Sl.of,Sl.pv,PV.coldN];exact ⟨by simpa using hf a,fun a _=>by simpa using hf a⟩
theorem zk6 (o:Option TellR):(zbx o).cold=true:=by
 cases o with
 | none=>rfl
 | some t =>
  have h1:=zhP (f:=Box.cells) (sz:=4) (n:=9) (fun a=>rfl) t.boxes;have h2:=zhP (f:=Span.cells) (sz:=2) (n:=9) (fun a=>rfl) t.heights;have h3:=zhP (f:=strF) (sz:=1) (n:=9) (fun a=>rfl) t.letters;simp [zbx,PV.cold,PV.coldN,TellR.told] at *;simp [h1,h2,h3,PV.coldN]
theorem zmd (n:Nat) (l:Life) (hr:Right l) (H:Heap) (id0:Nat) (r:LoopR) (hr1:r.state=.ready) (hr2:r.pending=.normal) (hr3:r.params.length=2) (hid0:id0 < H.nx) (hg:H.get id0=.loop r)
  (J:Nat->Nat->Heap->Prop)
  (hstab:∀ idc j H1 H2,J idc j H1->H1.nx<=H2.nx->(∀ i,i < H1.nx->i≠idc->i≠id0->H2.get i=H1.get i)->J idc j H2)
  (h0:∀ idc,H.nx<=idc->J idc 0 H)
  (hskip:∀ idc j H1,j < 3 ^ (l.sights.xs.length - 1)->zaQ l (toC (l.sights.xs.length - 1) j)=none->J idc j H1->J idc (j+1) H1)
  (hbody:∀ idc j t H1,j < 3 ^ (l.sights.xs.length - 1)->zaQ l (toC (l.sights.xs.length - 1) j)=some t->J idc j H1->H.nx<=idc->H1.get idc=.cells true (zx intF (toC (l.sights.xs.length - 1) j))->H1.get id0=.loop r ->
   wp (zg G (n+7)) r.assign ((r.params.zip [.row idc 1 0 (l.sights.xs.length - 1),.pure (.agg t.told.cells)]).foldl (fun e x=>upd e x.1 x.2) r.env) H1 (fun x env2 H2=>x=.normal/\H2.get id0=.loop r /\
    wp (zg G (n+7)) r.body env2 (H2.set id0 (.loop { r with state:=.busy })) (fun x _ H3=>x=.normal/\H3.get id0=.loop { r with state:=.busy }/\H3.get idc=.cells true (zx intF (toC (l.sights.xs.length - 1) j))/\H1.nx<=H3.nx/\J idc (j+1) H3) .mk) .mk) :
  ∃ v H',Vm.call G (n+9) (.fn 98) [.yield id0,.pure (.ptr false l.cells 0)] H=some (v,H')/\H'.get id0=.loop r/\∃ idc,J idc (3 ^ (l.sights.xs.length - 1)) H':=by
 have h1:=hr.one;have h9:=hr.nine;have hw:IntKind.i64.wrap ((l.sights.xs.length:Int) - 1)=((l.sights.xs.length - 1:Nat):Int):=zeX (by omega) (by omega);obtain ⟨m,hm0⟩:∃ m,m=l.sights.xs.length - 1:=⟨_,rfl⟩
 rw [<- hm0] at hskip hbody hw ⊢;have hm8:m<=8:=by omega
 have hmx:m*8<=zt:=by unfold zt;omega
 have hmy:m<=zt:=by unfold zt;omega
 have hm:Hide _:=⟨hm0⟩
 clear hm0;have hlr:Hide (r={ r with state:=.ready,pending:=.normal }):=⟨by rw [<- hr1,<- hr2]⟩
 refine zhR rfl g98 rfl ?_
 (repeat' first|simp [*,zb,c98]|(apply za<;>intro _ h<;>try simp [-Nat.le_zero_eq] at h));have hs0:H.nx≠id0:=by omega
 refine zF [(4,6),(12,45)] (fun (j:Nat) env H1=>j < 3 ^ m/\H1.get H.nx=.cells true (zx intF (toC m j))/\H1.get id0=.loop r/\J H.nx j H1) (fun j=>3 ^ m - j) 0 ?_ ?_ ?_ ?_
 ·decide
 ·refine ⟨Nat.pos_of_ne_zero (by simp),?_,?_,?_⟩
  ·rw [zaL,ziX,zbz];simp
  ·rw [zy hid0];exact hg
  ·exact hstab _ _ _ _ (h0 _ (Nat.le_refl _)) (by simp) (fun i hi _ _=>zy hi)
 ·have:3 ^ m<=3 ^ 8:=Nat.pow_le_pow_right (by decide) hm8;simp only [zB];have:(3 ^ 8:Nat)=6561:=rfl;omega
 rintro j env H1 ⟨hj,hgc,hgl,hJ⟩;have hidc:=zq hgc;have hid1:=zaA (H:=H1) (i:=id0) (by rw [hgl];simp);have hcl:=zaj m j;have hown:OwnV intF 1 H1 (.row H.nx 1 0 m) (toC m j):=.inr ⟨H.nx,by rw [hcl],hgc⟩;obtain ⟨s,hs1,hs2⟩:∃ s:Sl Int,s.xs=toC m j/\FrzK H1 true 12 (.row H.nx 1 0 m) (s.pv intF 1):=by
  rcases hown.frz (k:=true) (n:=10) (fun _=>rfl) with h|⟨h,h'⟩
  ·cases hc:toC m j with
   | nil=>rw [hc] at h;exact ⟨.nil,rfl,h⟩
   | cons a q=>rw [hc] at h;exact ⟨.mk true (a::q),rfl,h⟩
  ·exact ⟨.mk true [],h.symm,h'⟩
 have htell:zD G (n+8) 48 [.agg l.cells,s.pv intF 1]=some (zbx (zaQ l (toC m j))):=by
  have:=e48 (n+1) l s hr (by have:=hm.h;rw [hs1,hcl];omega) (by rw [hs1];exact zbR m j);rw [hs1] at this;exact this
 (repeat' first|simp [*,zb]|(apply za<;>intro _ h<;>try simp [-Nat.le_zero_eq] at h))
 refine zft (caps:=[]) sh48 (.cons (.pure (.agg l.cells)) (.cons hs2 .nil)) htell (zk6 _) ?_
 have hs1':¬ (id0=H.nx):=by omega
 cases ht:zaQ l (toC m j) with
 | none =>
  obtain ⟨H9,h9e⟩:∃ H9,H9=(H1.alloc (.cells true [.pure .nils,.pure .nils,.pure .nils])).set H1.nx (.cells true [.pure .nils,.pure .nils,.pure .nils]):=⟨_,rfl⟩
  have gc9:H9.get H.nx=.cells true (zx intF (toC m j)):=by rw [h9e,zu (by omega),zy hidc];exact hgc
  have gl9:H9.get id0=.loop r:=by rw [h9e,zu (by omega),zy hid1];exact hgl
  have J9:J H.nx (j+1) H9:=hskip _ _ _ hj ht (hstab _ _ _ _ hJ (by rw [h9e];simp) (fun i hi _ _=>by rw [h9e,zu (by omega),zy hi]));clear hskip hbody hJ;(repeat' first|simp [*,zb,zbx]|(apply za<;>intro _ h<;>try simp [-Nat.le_zero_eq] at h));rw [<- h9e];clear h9e
  refine zF [(6,6),(28,45)] (fun (k:Nat) env2 H2=>env2 28=.pure (.int .i64 k)/\k<=m/\H2.get H.nx=.cells true (zx intF (List.replicate k 0++(toC m j).drop k))/\H2.get id0=.loop r/\J H.nx (j+1) H2 /\
    Hide (incC (toC m j)=(incC ((toC m j).drop k)).map (List.replicate k 0 ++ ·))) (fun k=>m - k) 0 ?_ ?_ ?_ ?_
  ·decide
  ·refine ⟨by simp,by omega,by simpa using gc9,gl9,J9,⟨by simp⟩⟩
  ·simp only [zB];omega
  rintro k env2 H2 ⟨h28,hk,hgc2,hgl2,hJ2,hinc⟩;have hfitk:k < 9223372036854775807:=by omega
  have hXl:(List.replicate k 0++(toC m j).drop k).length=m:=by rw [List.length_append,List.length_replicate,List.length_drop,hcl];omega
  have hXk:∀ (h:k < m) h',(List.replicate k 0++(toC m j).drop k)[k]'h'=(toC m j)[k]'(by omega):=fun h h'=>by
   rw [List.getElem_append_right (by simp)];simp
  have hXs:∀ (h:k < m) x,(List.replicate k 0++(toC m j).drop k).set k x=List.replicate k 0++x::(toC m j).drop (k+1):=fun h x=>by
   rw [List.set_append_right _ _ (by simp),List.length_replicate,Nat.sub_self,List.drop_eq_getElem_cons (by omega),List.set_cons_zero]
  have hck:∀ (h:k < m),0<=(toC m j)[k]'(by omega)/\(toC m j)[k]'(by omega)<=2:=fun h=>zbR m j _ (List.getElem_mem _);have hwk:∀ (h:k < m),IntKind.i64.wrap ((toC m j)[k]'(by omega)+1)=(toC m j)[k]'(by omega)+1:=fun h=>by have:=hck h;exact wrap64 (by omega) (by omega)
  have hi1:∀ (h:k < m),(toC m j)[k]'(by omega) < 2->Hide (j+1 < 3 ^ m/\toC m (j+1)=List.replicate k 0++((toC m j)[k]'(by omega)+1)::(toC m j).drop (k+1)):=fun h h2=>⟨by
   have e1:=hinc.h;rw [List.drop_eq_getElem_cons (by omega),incC,if_pos h2,zdL m j hj] at e1
   split at e1
   ·rename_i h3;simp at e1;exact ⟨h3,e1⟩
   ·simp at e1⟩
  have hi2:∀ (h:k < m),¬ (toC m j)[k]'(by omega) < 2->Hide (incC (toC m j)=(incC ((toC m j).drop (k+1))).map (List.replicate (k+1) 0 ++ ·)):=fun h h2=>⟨by
   have e1:=hinc.h;rw [List.drop_eq_getElem_cons (by omega),incC,if_neg h2] at e1;rw [e1,List.replicate_succ',Option.map_map];simp [Function.comp_def]⟩
  have hi3:k=m->Hide (¬ j+1 < 3 ^ m):=fun h=>⟨fun h3=>by
   have e1:=hinc.h;rw [List.drop_eq_nil_of_le (by omega),zdL m j hj,if_pos h3] at e1;simp [incC] at e1⟩
  have hlen9:Hide _:=⟨hcl⟩
  obtain ⟨X,hX⟩:∃ X,X=List.replicate k 0++(toC m j).drop k:=⟨_,rfl⟩
  have hXk':Hide (∀ (h:k < m) h',X[k]'h'=(toC m j)[k]'(by omega)):=⟨by subst hX;exact hXk⟩
  rw [<- hX] at hgc2 hXl hXs;have hX':Hide _:=⟨hX⟩
  have hXs':Hide _:=⟨hXs⟩
  clear hXk hX hXs hinc;have hidc2:=zq hgc2;have hid2:=zaA (H:=H2) (i:=id0) (by rw [hgl2];simp);have hJs:∀ o,Hide (J H.nx (j+1) (H2.set H.nx o)):=fun o=>⟨hstab _ _ _ _ hJ2 (by simp) (fun i _ hi _=>zu hi)⟩
  have hlw:∀ (h:k < m) h',IntKind.i64.wrap (X[k]'h'+1)=X[k]'h'+1:=fun h h'=>by rw [hXk'.h h];exact hwk h
  have hs1':¬ (id0=H.nx):=by omega
  have hJ2':Hide _:=⟨hJ2⟩
  clear hwk hJ2;(repeat' first|simp [*,zb]|(apply za<;>intro _ h<;>try simp [-Nat.le_zero_eq] at h))
  ·have hkm:k < m:=by assumption
   have h2:X[k]'(by omega) < 2:=by assumption
   rw [hXk'.h hkm] at h2;obtain ⟨h3,h4⟩:=(hi1 hkm h2).h
   refine ⟨j+1,by omega,h3,?_,(hJs _).h⟩
   rw [h4,hXs'.h hkm,hXk'.h hkm]
  ·have hkm:k < m:=by assumption
   have h2:¬ X[k]'(by omega) < 2:=by omega
   rw [hXk'.h hkm] at h2
   refine ⟨k+1,by omega,by simp,by omega,?_,(hJs _).h,hi2 hkm h2⟩
   rw [hXs'.h hkm,List.replicate_succ'];simp
  ·have hkm:k=m:=by omega
   have h3:=(hi3 hkm).h;have h4:3 ^ m=j+1:=by omega
   rw [h4];exact ⟨_,hJ2'.h⟩
 | some t =>
  (repeat' first|simp [*,zb,zbx]|(apply za<;>intro _ h<;>try simp [-Nat.le_zero_eq] at h));obtain ⟨H9,h9e⟩:∃ H9,H9=(H1.alloc (.cells true [.pure .nils,.pure .nils,.pure .nils])).set H1.nx (.cells true [.pure (Sl.pv Box.cells 4 t.told.boxes),.pure (Sl.pv Span.cells 2 t.told.heights),.pure (Sl.pv strF 1 t.told.letters)]):=⟨_,rfl⟩
  have gc9:H9.get H.nx=.cells true (zx intF (toC m j)):=by rw [h9e,zu (by omega),zy hidc];exact hgc
  have gl9:H9.get id0=.loop r:=by rw [h9e,zu (by omega),zy hid1];exact hgl
  have J9:J H.nx j H9:=hstab _ _ _ _ hJ (by rw [h9e];simp) (fun i hi _ _=>by rw [h9e,zu (by omega),zy hi]);rw [<- h9e]
  refine zjs gl9 hr1 (by rw [hr3];rfl) ?_
  refine (hbody H.nx j t _ hj ht J9 (Nat.le_refl _) gc9 gl9).mono ?_
  rintro x env5 H5 ⟨rfl,gl5,hw5⟩
  refine ⟨rfl,gl5,hw5.mono ?_⟩
  rintro x env6 H6 ⟨rfl,g1,g2,g3,g4⟩
  refine ⟨rfl,g1,?_⟩
  rw [<- hlr.h];clear hskip hbody hJ J9 gc9 gl9 h9e hw5;obtain ⟨H9,h9e⟩:∃ H9,H9=H6.set id0 (.loop r):=⟨_,rfl⟩
  have hid6:=zaA (H:=H6) (i:=id0) (by rw [g1];simp);have gc9:H9.get H.nx=.cells true (zx intF (toC m j)):=by rw [h9e,zu (by omega)];exact g2
  have gl9:H9.get id0=.loop r:=by rw [h9e,zU hid6]
  have J9:J H.nx (j+1) H9:=hstab _ _ _ _ g4 (by rw [h9e];simp) (fun i hi _ hi2=>by rw [h9e,zu hi2]);rw [<- h9e];clear h9e g1 g2 g3 g4;(repeat' first|simp [*,zb]|(apply za<;>intro _ h<;>try simp [-Nat.le_zero_eq] at h))
  refine zF [(6,6),(28,45)] (fun (k:Nat) env2 H2=>env2 28=.pure (.int .i64 k)/\k<=m/\H2.get H.nx=.cells true (zx intF (List.replicate k 0++(toC m j).drop k))/\H2.get id0=.loop r/\J H.nx (j+1) H2 /\
    Hide (incC (toC m j)=(incC ((toC m j).drop k)).map (List.replicate k 0 ++ ·))) (fun k=>m - k) 0 ?_ ?_ ?_ ?_
  ·decide
  ·refine ⟨by simp,by omega,by simpa using gc9,gl9,J9,⟨by simp⟩⟩
  ·simp only [zB];omega
  rintro k env2 H2 ⟨h28,hk,hgc2,hgl2,hJ2,hinc⟩;have hfitk:k < 9223372036854775807:=by omega
  have hXl:(List.replicate k 0++(toC m j).drop k).length=m:=by rw [List.length_append,List.length_replicate,List.length_drop,hcl];omega
  have hXk:∀ (h:k < m) h',(List.replicate k 0++(toC m j).drop k)[k]'h'=(toC m j)[k]'(by omega):=fun h h'=>by
   rw [List.getElem_append_right (by simp)];simp
  have hXs:∀ (h:k < m) x,(List.replicate k 0++(toC m j).drop k).set k x=List.replicate k 0++x::(toC m j).drop (k+1):=fun h x=>by
   rw [List.set_append_right _ _ (by simp),List.length_replicate,Nat.sub_self,List.drop_eq_getElem_cons (by omega),List.set_cons_zero]
  have hck:∀ (h:k < m),0<=(toC m j)[k]'(by omega)/\(toC m j)[k]'(by omega)<=2:=fun h=>zbR m j _ (List.getElem_mem _);have hwk:∀ (h:k < m),IntKind.i64.wrap ((toC m j)[k]'(by omega)+1)=(toC m j)[k]'(by omega)+1:=fun h=>by have:=hck h;exact wrap64 (by omega) (by omega)
  have hi1:∀ (h:k < m),(toC m j)[k]'(by omega) < 2->Hide (j+1 < 3 ^ m/\toC m (j+1)=List.replicate k 0++((toC m j)[k]'(by omega)+1)::(toC m j).drop (k+1)):=fun h h2=>⟨by
   have e1:=hinc.h;rw [List.drop_eq_getElem_cons (by omega),incC,if_pos h2,zdL m j hj] at e1
   split at e1
   ·rename_i h3;simp at e1;exact ⟨h3,e1⟩
   ·simp at e1⟩
  have hi2:∀ (h:k < m),¬ (toC m j)[k]'(by omega) < 2->Hide (incC (toC m j)=(incC ((toC m j).drop (k+1))).map (List.replicate (k+1) 0 ++ ·)):=fun h h2=>⟨by
   have e1:=hinc.h;rw [List.drop_eq_getElem_cons (by omega),incC,if_neg h2] at e1;rw [e1,List.replicate_succ',Option.map_map];simp [Function.comp_def]⟩
  have hi3:k=m->Hide (¬ j+1 < 3 ^ m):=fun h=>⟨fun h3=>by
   have e1:=hinc.h;rw [List.drop_eq_nil_of_le (by omega),zdL m j hj,if_pos h3] at e1;simp [incC] at e1⟩
  have hlen9:Hide _:=⟨hcl⟩
  obtain ⟨X,hX⟩:∃ X,X=List.replicate k 0++(toC m j).drop k:=⟨_,rfl⟩
  have hXk':Hide (∀ (h:k < m) h',X[k]'h'=(toC m j)[k]'(by omega)):=⟨by subst hX;exact hXk⟩
  rw [<- hX] at hgc2 hXl hXs;have hX':Hide _:=⟨hX⟩
  have hXs':Hide _:=⟨hXs⟩
  clear hXk hX hXs hinc;have hidc2:=zq hgc2;have hid2:=zaA (H:=H2) (i:=id0) (by rw [hgl2];simp);have hJs:∀ o,Hide (J H.nx (j+1) (H2.set H.nx o)):=fun o=>⟨hstab _ _ _ _ hJ2 (by simp) (fun i _ hi _=>zu hi)⟩
  have hlw:∀ (h:k < m) h',IntKind.i64.wrap (X[k]'h'+1)=X[k]'h'+1:=fun h h'=>by rw [hXk'.h h];exact hwk h
  have hs1':¬ (id0=H.nx):=by omega
  have hJ2':Hide _:=⟨hJ2⟩
  clear hwk hJ2;(repeat' first|simp [*,zb]|(apply za<;>intro _ h<;>try simp [-Nat.le_zero_eq] at h))
  ·have hkm:k < m:=by assumption
   have h2:X[k]'(by omega) < 2:=by assumption
   rw [hXk'.h hkm] at h2;obtain ⟨h3,h4⟩:=(hi1 hkm h2).h
   refine ⟨j+1,by omega,h3,?_,(hJs _).h⟩
   rw [h4,hXs'.h hkm,hXk'.h hkm]
  ·have hkm:k < m:=by assumption
   have h2:¬ X[k]'(by omega) < 2:=by omega
   rw [hXk'.h hkm] at h2
   refine ⟨k+1,by omega,by simp,by omega,?_,(hJs _).h,hi2 hkm h2⟩
   rw [hXs'.h hkm,List.replicate_succ'];simp
  ·have hkm:k=m:=by omega
   have h3:=(hi3 hkm).h;have h4:3 ^ m=j+1:=by omega
   rw [h4];exact ⟨_,hJ2'.h⟩
theorem zjf {n:Nat} {l:Life} (hr:Right l) {env:Env} {H:Heap} {f:Opnd} {params:List Nat} {assign body:VCode} {Q:VExit->Env->Heap->Prop} {u} (hf:f.eval env=.pure (.func 98 [.ptr false l.cells 0])) (hp:params.length=2)
  (J:Nat->Nat->Heap->Prop)
  (hstab:∀ idc j H1 H2,J idc j H1->H1.nx<=H2.nx->(∀ i,i < H1.nx->i≠idc->i≠H.nx->H2.get i=H1.get i)->J idc j H2)
  (h0:∀ idc,H.nx < idc->J idc 0 H)
  (hskip:∀ idc j H1,j < 3 ^ (l.sights.xs.length - 1)->zaQ l (toC (l.sights.xs.length - 1) j)=none->J idc j H1->J idc (j+1) H1)
  (hbody:∀ idc j t H1,j < 3 ^ (l.sights.xs.length - 1)->zaQ l (toC (l.sights.xs.length - 1) j)=some t->H.nx < idc->idc < H1.nx ->
   wp (zg G (n+7)) assign ((params.zip [.row idc 1 0 (l.sights.xs.length - 1),.pure (.agg t.told.cells)]).foldl (fun e x=>upd e x.1 x.2) env) H1 (fun x env2 H2=>x=.normal/\H1.nx<=H2.nx/\(∀ i,i < H1.nx->H2.get i=H1.get i) /\
    ∀ Hb,Hb.nx=H2.nx->(∀ i,i≠H.nx->Hb.get i=H2.get i)->J idc j Hb->Hb.get idc=.cells true (zx intF (toC (l.sights.xs.length - 1) j))->H.nx < Hb.nx ->
     wp (zg G (n+7)) body env2 Hb (fun x _ H3=>x=.normal/\H3.get H.nx=Hb.get H.nx/\H3.get idc=.cells true (zx intF (toC (l.sights.xs.length - 1) j))/\Hb.nx<=H3.nx/\J idc (j+1) H3) .mk) .mk)
  (hend:∀ idc H',J idc (3 ^ (l.sights.xs.length - 1)) H'->Q .normal env H') :
  wp (zg G (n+9)) (.rangeFunc f params assign body) env H Q u:=by
 refine zhF hf ?_
 obtain ⟨v,H2,h1,h2,idc,h3⟩:=zmd n l hr (H.alloc (.loop { env,params,assign,body,state:=.ready,pending:=.normal })) H.nx { env,params,assign,body,state:=.ready,pending:=.normal } rfl rfl hp (by simp) (zaL _) J hstab
  (fun idc hi=>hstab idc 0 H _ (h0 idc (by simp at hi;omega)) (by simp) (fun i hi _ _=>zy hi)) hskip
  (fun idc j t H1 hj ht hJ hi hgc hgl=>by
   have hlt:=zq hgc;have hi':H.nx < idc:=by simp at hi;omega
   refine (hbody idc j t H1 hj ht hi' hlt).mono ?_
   rintro x env2 H2 ⟨rfl,hx2,hs2,hw⟩;have hid1:=zaA (H:=H1) (i:=H.nx) (by rw [hgl];simp);have hgl2:H2.get H.nx=_:=(hs2 _ hid1).trans hgl
   refine ⟨rfl,hgl2,?_⟩
   have hid:=zaA (H:=H2) (i:=H.nx) (by rw [hgl2];simp)
   refine (hw (H2.set H.nx (.loop { env,params,assign,body,state:=.busy,pending:=.normal })) rfl (fun i hi=>zu hi) (hstab _ _ _ _ hJ (by simpa using hx2) (fun i hi _ hi2=>by rw [zu hi2];exact hs2 i hi)) (by rw [zu (by omega),hs2 _ hlt];exact hgc) (by simpa using hid)).mono ?_
   rintro x env3 H3 ⟨rfl,g1,g2,g3,g4⟩;exact ⟨rfl,by rw [g1,zU hid],g2,by simp at g3;omega,g4⟩)
 refine ⟨v,H2,h1,h2,hend idc _ (hstab _ _ _ _ h3 (by simp) (fun i _ _ hi=>zu hi))⟩
theorem zel {n:Nat} {l:Life} (hr:Right l) {env:Env} {H:Heap} {f:Opnd} {params:List Nat} {assign body:VCode} {Q:VExit->Env->Heap->Prop} {u} (hf:f.eval env=.pure (.func 98 [.ptr false l.cells 0])) (hp:params.length=2)
  (J:Nat->Nat->Heap->Prop)
  (hstab:∀ idc j H1 H2,J idc j H1->H1.nx<=H2.nx->(∀ i,i < H1.nx->i≠idc->i≠H.nx->H2.get i=H1.get i)->J idc j H2)
  (h0:∀ idc,H.nx < idc->J idc 0 H)
  (hskip:∀ idc j H1,j < 3 ^ (l.sights.xs.length - 1)->zaQ l (toC (l.sights.xs.length - 1) j)=none->J idc j H1->J idc (j+1) H1)
  (hbody:∀ idc j t H1,j < 3 ^ (l.sights.xs.length - 1)->zaQ l (toC (l.sights.xs.length - 1) j)=some t->H.nx < idc->idc < H1.nx ->
   wp (zg G (n+7)) assign ((params.zip [.row idc 1 0 (l.sights.xs.length - 1),.pure (.agg t.told.cells)]).foldl (fun e x=>upd e x.1 x.2) env) H1 (fun x env2 H2=>x=.normal/\H2=H1 /\
    ∀ Hb,J idc j Hb->Hb.get idc=.cells true (zx intF (toC (l.sights.xs.length - 1) j))->H.nx < Hb.nx ->
     wp (zg G (n+7)) body env2 Hb (fun x _ H3=>x=.normal/\H3.get H.nx=Hb.get H.nx/\H3.get idc=.cells true (zx intF (toC (l.sights.xs.length - 1) j))/\Hb.nx<=H3.nx/\J idc (j+1) H3) .mk) .mk)
  (hend:∀ idc H',J idc (3 ^ (l.sights.xs.length - 1)) H'->Q .normal env H') :
  wp (zg G (n+9)) (.rangeFunc f params assign body) env H Q u :=
 zjf hr hf hp J hstab h0 hskip (fun idc j t H1 hj ht hi hlt=>(hbody idc j t H1 hj ht hi hlt).mono fun x env2 H2 h=>by
  obtain ⟨h1,rfl,h3⟩:=h;exact ⟨h1,Nat.le_refl _,fun _ _=>rfl,fun Hb _ _ hJ hg hn=>h3 Hb hJ hg hn⟩) hend
def chg (c:List Int):Nat:=c.countP (fun k=>!decide (k=0))
theorem ziT {c:List Int} {i:Nat} (h:i < c.length):chg (c.take (i+1))=chg (c.take i)+if c[i]=0 then 0 else 1:=by
 rw [<- zaO h,chg,List.countP_append]
 by_cases h0:c[i]=0<;>simp [chg,h0]
theorem zeS (c:List Int):chg c<=c.length:=List.countP_le_length
theorem e55 (n:Nat) (c:Sl Int) (hc:c.xs.length < 1000):zD G (n+1) 55 [c.pv intF 1]=some (.int .i64 (chg c.xs)):=by
 refine zo (zm _) rfl g55 rfl ?_
 (repeat' first|simp [*,zb,c55]|(apply za<;>intro _ h<;>try simp [-Nat.le_zero_eq] at h))
 refine zF [(3,3),(5,5),(8,16)] (fun (i:Nat) env H=>env 8=.pure (.int .i64 i)/\env 3=.pure (.int .i64 (chg (c.xs.take i)))/\i<=c.xs.length) (fun i=>c.xs.length - i) 0 ?_ ?_ ?_ ?_
 ·decide
 ·simp [chg]
 ·simp only [zB];omega
 rintro i env H ⟨h8,h3,hi⟩;have hfit:i < 9223372036854775807:=by omega
 have hcl:=zeS (c.xs.take i);rw [List.length_take] at hcl;have hfit2:chg (c.xs.take i) < 9223372036854775807:=by omega
 have hs:∀ h:i < c.xs.length,Hide (chg (c.xs.take (i+1))=chg (c.xs.take i)+if c.xs[i]=0 then 0 else 1):=fun h=>⟨ziT h⟩
 (repeat' first|simp [*,zb]|(apply za<;>intro _ h<;>try simp [-Nat.le_zero_eq] at h))
 ·exact ⟨i+1,by omega,by simp,by rw [(hs (by assumption)).h,if_pos (by assumption)];simp,by omega⟩
 ·exact ⟨i+1,by omega,by simp,by rw [(hs (by assumption)).h,if_neg (by assumption)];simp,by omega⟩
 ·rw [List.take_of_length_le (by omega)]
theorem sh13:G.shared 13=false:=by decide
theorem e13 (n:Nat) (c:Sl Int) (hc:c.xs.length < 1000):zD G (n+1) 13 [c.pv intF 1]=some (.int .i64 (chg c.xs)):=by
 refine zo (zm _) rfl g13 rfl ?_
 (repeat' first|simp [*,zb,c13]|(apply za<;>intro _ h<;>try simp [-Nat.le_zero_eq] at h))
 refine zF [(3,17)] (fun (i:Nat) env H=>env 4=.pure (.int .i64 i)/\env 3=.pure (.int .i64 (chg (c.xs.take i)))/\i<=c.xs.length) (fun i=>c.xs.length - i) 0 ?_ ?_ ?_ ?_
 ·decide
 ·simp [chg]
 ·simp only [zB];omega
 rintro i env H ⟨h8,h3,hi⟩;have hfit:i < 9223372036854775807:=by omega
 have hcl:=zeS (c.xs.take i);rw [List.length_take] at hcl;have hfit2:chg (c.xs.take i) < 9223372036854775807:=by omega
 have hs:∀ h:i < c.xs.length,Hide (chg (c.xs.take (i+1))=chg (c.xs.take i)+if c.xs[i]=0 then 0 else 1):=fun h=>⟨ziT h⟩
 (repeat' first|simp [*,zb]|(apply za<;>intro _ h<;>try simp [-Nat.le_zero_eq] at h))
 ·exact ⟨i+1,by omega,by simp,by rw [(hs (by assumption)).h,if_pos (by assumption)];simp,by omega⟩
 ·exact ⟨i+1,by omega,by simp,by rw [(hs (by assumption)).h,if_neg (by assumption)];simp,by omega⟩
 ·rw [List.take_of_length_le (by omega)]
@[simp] theorem d13 (n:Nat) (H:Heap) (c:Sl Int) (hc:c.xs.length < 1000):zn (zg G (n+1)) H (.pure (.func 13 [])) [.pure (c.pv intF 1)]=some (.val (.pure (.int .i64 (chg c.xs)))) :=
 zh (ps:=[_]) (caps:=[]) sh13 (e13 n c hc)
theorem sh79:G.shared 79=false:=by decide
theorem e79 (n:Nat) (l:Life) (N:Nat) (hN:N=3 ^ (l.sights.xs.length - 1)) (h1:1<=l.sights.xs.length) (h9:l.sights.xs.length<=9):zD G (n+1) 79 [.agg l.cells]=some (.int .i64 (N:Nat)):=by
 refine zo (zm _) rfl g79 rfl ?_
 have hP:Hide _:=⟨hN⟩
 clear hN;(repeat' first|simp [*,zb,c79]|(apply za<;>intro _ h<;>try simp [-Nat.le_zero_eq] at h))
 refine zF [(3,13)] (fun (s:Nat×Nat) env H=>env 4=.pure (.int .i64 s.1)/\env 3=.pure (.int .i64 s.2)/\1<=s.1/\s.1<=l.sights.xs.length/\s.2<=6561/\Hide (s.2=3 ^ (s.1 - 1))) (fun s=>l.sights.xs.length - s.1) (1,1) ?_ ?_ ?_ ?_
 ·decide
 ·simp [h1]
 ·simp only [zB];omega
 rintro ⟨i,p⟩ env H ⟨h4,h3,hi1,hi,hp,hn⟩;simp only at h4 h3 hi1 hi hp hn;have hfit:i < 9223372036854775807:=by omega
 have hw:IntKind.i64.wrap (3*(p:Int))=((3*p:Nat):Int):=by rw [wrap64 (by omega) (by omega)];simp
 have hstep:Hide (3*p=3 ^ (i+1 - 1)):=⟨by
  have:i+1 - 1=(i - 1)+1:=by omega
  rw [hn.h,this,Nat.pow_succ,Nat.mul_comm]⟩
 (repeat' first|simp [*,zb]|(apply za<;>intro _ h<;>try simp [-Nat.le_zero_eq] at h))
 ·refine ⟨i+1,by omega,by simp,3*p,by simp,by omega,by omega,?_,hstep⟩
  rw [hstep.h];have h8:i+1 - 1<=8:=by omega
  have:3 ^ (i+1 - 1)<=3 ^ 8:=Nat.pow_le_pow_right (by decide) h8;exact this
 ·have:i=l.sights.xs.length:=by omega
  rw [hn.h,hP.h,this]
@[simp] theorem d79 (n:Nat) (H:Heap) (l_habit_step:Int) (l_habit_place:Int) (l_habit_sink:Int) (l_sights:Sl Sight) (l_notes:Sl Note) (N:Nat) (hN:(fun (l:Life)=>N=3 ^ (l.sights.xs.length - 1)) (⟨⟨l_habit_step,l_habit_place,l_habit_sink⟩,l_sights,l_notes⟩:Life)) (h1:(fun (l:Life)=>1<=l.sights.xs.length) (⟨⟨l_habit_step,l_habit_place,l_habit_sink⟩,l_sights,l_notes⟩:Life)) (h9:(fun (l:Life)=>l.sights.xs.length<=9) (⟨⟨l_habit_step,l_habit_place,l_habit_sink⟩,l_sights,l_notes⟩:Life)):zn (zg G (n+1)) H (.pure (.func 79 [])) [.pure (.agg [.int .i64 l_habit_step,.int .i64 l_habit_place,.int .i64 l_habit_sink,(l_sights).pv Sight.cells 9,(l_notes).pv Note.cells 4])]=some (.val (.pure (.int .i64 (N:Nat)))) :=
 zh (ps:=[_]) (caps:=[]) sh79 (e79 n (⟨⟨l_habit_step,l_habit_place,l_habit_sink⟩,l_sights,l_notes⟩:Life) N hN h1 h9)
theorem sh80:G.shared 80=false:=by decide
theorem e80 (n:Nat) (l:Life) (j:Nat) (h1:1<=l.sights.xs.length) (h9:l.sights.xs.length<=9) (hj:j < 100000):zD G (n+1) 80 [.agg l.cells,.int .i64 (j:Nat)]=some ((Sl.of (toC (l.sights.xs.length - 1) j)).pv intF 1):=by
 refine zo (zm _) rfl g80 rfl ?_
 obtain ⟨c0,hc0⟩:∃ c,c=toC (l.sights.xs.length - 1) j:=⟨_,rfl⟩
 rw [<- hc0];have hcc:Hide _:=⟨hc0⟩
 clear hc0;(repeat' first|simp [*,zb,c80]|(apply za<;>intro _ h<;>try simp [-Nat.le_zero_eq] at h)|(show wpE 0 (zl ..) ..;refine zw ?_)|(refine zi fun v2 H2 hv2 hnx2 hget2 hnew2 hone2 hcel2=>?_))
 refine zF [(1,1),(5,20)] (fun (s:Nat×Nat×List Int) env H=>env 6=.pure (.int .i64 s.1)/\env 1=.pure (.int .i64 s.2.1)/\GrowV intF 1 H (env 5) s.2.2/\1<=s.1/\s.1<=l.sights.xs.length/\s.2.1 < 100000/\s.2.2.length < 10/\Hide (s.2.2.length=s.1 - 1/\c0=s.2.2++toC (l.sights.xs.length - s.1) s.2.1)) (fun s=>l.sights.xs.length - s.1) (1,j,[]) ?_ ?_ ?_ ?_
 ·decide
 ·refine ⟨by simp,by simp [zb],by simpa using GrowV.nil,by omega,by omega,hj,by simp,⟨rfl,by rw [hcc.h];rfl⟩⟩
 ·simp only [zB];omega
 rintro ⟨i,cur,out⟩ env H ⟨h6,h1',hg,hi1,hi,hcur,hol,hn⟩;simp only at h6 h1' hg hi1 hi hcur hol hn;have hfit:i < 9223372036854775807:=by omega
 have ht:((cur:Int)).tmod 3=((cur % 3:Nat):Int):=rfl;have hq:IntKind.i64.wrap ((cur:Int).tdiv 3)=((cur / 3:Nat):Int):=by
  have:(cur:Int).tdiv 3=((cur / 3:Nat):Int):=rfl;rw [this,wrap64 (by omega) (by omega)]
 obtain ⟨q,hq0⟩:∃ q,q=cur / 3:=⟨_,rfl⟩
 obtain ⟨d,hd0⟩:∃ d,d=cur % 3:=⟨_,rfl⟩
 rw [<- hq0] at hq;rw [<- hd0] at ht;have hq2:IntKind.i64.wrap ((cur:Int) / 3)=q:=by rw [wrap64 (by omega) (by omega),hq0];omega
 have hd2:(cur:Int) % 3=d:=by omega
 have hq1:Hide _:=⟨hq0⟩
 have hd1:Hide _:=⟨hd0⟩
 clear hq0 hd0;obtain ⟨ids,hids⟩:=hg.res (n:=10) (fun _=>rfl);(repeat' first|simp [*,zb]|(apply za<;>intro _ h<;>try simp [-Nat.le_zero_eq] at h)|(show wpE 0 (zl ..) ..;refine zw ?_)|(refine zi fun v2 H2 hv2 hnx2 hget2 hnew2 hone2 hcel2=>?_))
 ·refine ⟨i+1,by omega,by simp,q,by first|rfl|exact hq2,out++[(d:Int)],hv2,by omega,by omega,by have:=hq1.h;omega,?_,⟨?_,?_⟩⟩
  ·have:=hn.h.1;simp;omega
  ·have:=hn.h.1;simp;omega
  ·have e:l.sights.xs.length - i=(l.sights.xs.length - (i+1))+1:=by omega
   rw [hn.h.2,e,toC,<- hq1.h,<- hd1.h];simp
 ·have e:l.sights.xs.length - i=0:=by omega
  have:=hn.h.2;rw [e,toC,List.append_nil] at this;rw [this];exact ⟨ids,hids⟩
@[simp] theorem d80 (n:Nat) (H:Heap) (l_habit_step:Int) (l_habit_place:Int) (l_habit_sink:Int) (l_sights:Sl Sight) (l_notes:Sl Note) (j:Nat) (h1:(fun (l:Life)=>1<=l.sights.xs.length) (⟨⟨l_habit_step,l_habit_place,l_habit_sink⟩,l_sights,l_notes⟩:Life)) (h9:(fun (l:Life)=>l.sights.xs.length<=9) (⟨⟨l_habit_step,l_habit_place,l_habit_sink⟩,l_sights,l_notes⟩:Life)) (hj:j < 100000):zn (zg G (n+1)) H (.pure (.func 80 [])) [.pure (.agg [.int .i64 l_habit_step,.int .i64 l_habit_place,.int .i64 l_habit_sink,(l_sights).pv Sight.cells 9,(l_notes).pv Note.cells 4]),.pure (.int .i64 (j:Nat))]=some (.val (.pure ((fun (l:Life)=>(Sl.of (toC (l.sights.xs.length - 1) j)).pv intF 1) (⟨⟨l_habit_step,l_habit_place,l_habit_sink⟩,l_sights,l_notes⟩:Life)))) :=
 zh (ps:=[_,_]) (caps:=[]) sh80 (e80 n (⟨⟨l_habit_step,l_habit_place,l_habit_sink⟩,l_sights,l_notes⟩:Life) j h1 h9 hj)
def zfd (out:List Int) (i:Nat):List Int:=out.set i (out[i]! + 1)
def byTo (p:List Int->Bool) (m:Nat):Nat->List Int
 | 0=>List.replicate (m+1) 0
 | j+1=>if p (toC m j)=true then zfd (byTo p m j) (chg (toC m j)) else byTo p m j
theorem zaV (p:List Int->Bool) (m:Nat):∀ j,(byTo p m j).length=m+1
 | 0=>by simp [byTo]
 | j+1=>by
  rw [byTo]
  split
  ·rw [zfd,List.length_set,zaV p m j]
  ·exact zaV p m j
theorem zfq (p:List Int->Bool) (m:Nat):∀ j,∀ a∈byTo p m j,0<=a/\a<=j
 | 0=>by
  intro a ha;simp [byTo] at ha;omega
 | j+1=>by
  have ih:=zfq p m j;intro a ha;rw [byTo] at ha
  split at ha
  ·rcases List.mem_or_eq_of_mem_set ha with ha|rfl
   ·have:=ih a ha;omega
   ·have hl:=zaV p m j;have hc:=zeS (toC m j);rw [zaj] at hc;have:=ih ((byTo p m j)[chg (toC m j)]!) (by rw [getElem!_pos _ _ (by omega)];exact List.getElem_mem _);omega
  ·have:=ih a ha;omega
theorem zhu {m:Nat} (h:m<=8):3 ^ m<=6561:=by
 have:3 ^ m<=3 ^ 8:=Nat.pow_le_pow_right (by decide) h;exact this
def fitP (l:Life) (c:List Int):Bool:=(zaQ l c).isSome
theorem sh54:G.shared 54=false:=by decide
theorem e54 (n:Nat) (l:Life):zD G (n+1) 54 [.agg l.cells]=some (.func 98 [.ptr false l.cells 0]):=by
 refine zo (zm _) rfl g54 rfl ?_
 (repeat' first|simp [*,zb,c54]|(apply za<;>intro _ h<;>try simp [-Nat.le_zero_eq] at h))
@[simp] theorem d54 (n:Nat) (H:Heap) (l_habit_step:Int) (l_habit_place:Int) (l_habit_sink:Int) (l_sights:Sl Sight) (l_notes:Sl Note):zn (zg G (n+1)) H (.pure (.func 54 [])) [.pure (.agg [.int .i64 l_habit_step,.int .i64 l_habit_place,.int .i64 l_habit_sink,(l_sights).pv Sight.cells 9,(l_notes).pv Note.cells 4])]=some (.val (.pure ((fun (l:Life)=>.func 98 [.ptr false l.cells 0]) (⟨⟨l_habit_step,l_habit_place,l_habit_sink⟩,l_sights,l_notes⟩:Life)))) :=
 zh (ps:=[_]) (caps:=[]) sh54 (e54 n (⟨⟨l_habit_step,l_habit_place,l_habit_sink⟩,l_sights,l_notes⟩:Life))
theorem e22 (n:Nat) (l:Life) (hs:za5 l):zD G (n+10) 22 [.agg l.cells]=some ((if zR l=0 then .tup [(Sl.mk false (byTo (fitP l) (l.sights.xs.length - 1) (3 ^ (l.sights.xs.length - 1)))).pv intF 1,.int .i64 0] else .tup [.nils,.int .i64 (zR l)])):=by
 refine zo (zm _) rfl g22 rfl ?_
 have hcc:∀ H,zn (zg G (n+9)) H (.pure (.func 29 [])) [.pure (.agg l.cells)]=some (.val (.pure (.int .i64 (zR l)))):=fun H=>d29 (n+4) H l.habit.step l.habit.place l.habit.sink l.sights l.notes hs;simp only [Life.cells] at hcc
 by_cases hck:zR l=0
 ·have hr:=(za1 l).1 hck;have h1:=hr.one;have h9:=hr.nine;have hm1:l.sights.xs.length*8<=zt:=by unfold zt;omega
  have hm2:l.sights.xs.length<=zt:=by unfold zt;omega
  (repeat' first|simp [*,zb,c22]|(apply za<;>intro _ h<;>try simp [-Nat.le_zero_eq] at h))
  refine zel (n:=n) (l:=l) hr (by simp) rfl (fun idc j H1=>2 < idc/\H1.get 0=.cells true (zx intF (byTo (fitP l) (l.sights.xs.length - 1) j))/\H1.get 1=.cells true [.row 0 1 0 l.sights.xs.length]) ?_ ?_ ?_ ?_ ?_
  ·rintro idc j H1 H2 ⟨hi,g0,g1⟩ hnx hsame;have:=zq g1
   refine ⟨hi,by rw [hsame 0 (by omega) (by omega) (by simp)];exact g0,by rw [hsame 1 (by omega) (by omega) (by simp)];exact g1⟩
  ·intro idc hi;have e:l.sights.xs.length - 1+1=l.sights.xs.length:=by omega
   refine ⟨by simpa using hi,?_,by simp⟩
   simp [byTo,zbz,e]
  ·rintro idc j H1 hj ht ⟨hi,g0,g1⟩
   refine ⟨hi,?_,g1⟩
   rw [byTo,if_neg (by simp [fitP,ht])];exact g0
  ·intro idc j t H1 hj ht hi hlt;(repeat' first|simp [*,zb]|(apply za<;>intro _ h<;>try simp [-Nat.le_zero_eq] at h));rintro Hb hi2 g0 g1 gc hnx;have hcl:=zaj (l.sights.xs.length - 1) j;obtain ⟨s,hs1,hs2⟩:=zjv (f:=intF) (sz:=1) (n:=10) (fun _=>rfl) gc hcl;have hch:zD G (n+7) 55 [s.pv intF 1]=some (.int .i64 (chg (toC (l.sights.xs.length - 1) j))):=by
    have:=e55 (n+6) s (by rw [hs1,hcl];omega);rw [hs1] at this;exact this
   have hlen:=zaV (fitP l) (l.sights.xs.length - 1) j;have hle:=zeS (toC (l.sights.xs.length - 1) j);rw [hcl] at hle;have hj3:=zhu (m:=l.sights.xs.length - 1) (by omega);have hbd:=zfq (fitP l) (l.sights.xs.length - 1) j;have hst:Hide (byTo (fitP l) (l.sights.xs.length - 1) (j+1)=zfd (byTo (fitP l) (l.sights.xs.length - 1) j) (chg (toC (l.sights.xs.length - 1) j))):=⟨by rw [byTo,if_pos (by simp [fitP,ht])]⟩
   have hk1:chg (toC (l.sights.xs.length - 1) j) < l.sights.xs.length:=by omega
   generalize hB:byTo (fitP l) (l.sights.xs.length - 1) j=B at *;generalize hK:chg (toC (l.sights.xs.length - 1) j)=K at *;have hk2:K < B.length:=by omega
   have hbk:=hbd B[K] (List.getElem_mem _);have hwr:IntKind.i64.wrap (B[K]+1)=B[K]+1:=wrap64 (by omega) (by omega);have hn0:0 < Hb.nx:=by omega
   have hi0:¬ (idc=0):=by omega
   clear hcc hlen hbd hB hK;(repeat' first|simp [*,zb]|(apply za<;>intro _ h<;>try simp [-Nat.le_zero_eq] at h))
   refine zft (caps:=[]) (by decide) (.cons hs2 .nil) hch rfl ?_
   (repeat' first|simp [*,zb]|(apply za<;>intro _ h<;>try simp [-Nat.le_zero_eq] at h));rw [hst.h,zfd,getElem!_pos B K hk2]
  ·rintro idc H' ⟨hi,g0,g1⟩;have hlen:=zaV (fitP l) (l.sights.xs.length - 1) (3 ^ (l.sights.xs.length - 1));have e:l.sights.xs.length - 1+1=l.sights.xs.length:=by omega
   rw [e] at hlen;obtain ⟨ids,hids⟩:=zex (f:=intF) (sz:=1) (n:=9) (fun _=>rfl) g0 hlen;(repeat' first|simp [*,zb]|(apply za<;>intro _ h<;>try simp [-Nat.le_zero_eq] at h))
 ·(repeat' first|simp [*,zb,c22]|(apply za<;>intro _ h<;>try simp [-Nat.le_zero_eq] at h))
theorem sh42:G.shared 42=false:=by decide
theorem e42 (n:Nat) (l:Life) (hs:za5 l):zD G (n+8) 42 [.agg l.cells]=some (.agg (if zR l=0 then [(Sl.mk false (byTo (canS l) (l.sights.xs.length - 1) (3 ^ (l.sights.xs.length - 1)))).pv intF 1,.int .i64 0] else [.nils,.int .i64 (zR l)])):=by
 refine zo (zm _) rfl g42 rfl ?_
 have hcc:∀ H,zn (zg G (n+7)) H (.pure (.func 10 [])) [.pure (.agg l.cells)]=some (.val (.pure (.int .i64 (zR l)))):=fun H=>d10 (n+2) H l.habit.step l.habit.place l.habit.sink l.sights l.notes hs;simp only [Life.cells] at hcc
 by_cases hck:zR l=0
 ·have hr:=(za1 l).1 hck;have h1:=hr.one;have h9:=hr.nine;have hm1:l.sights.xs.length*8<=zt:=by unfold zt;omega
  have hm2:l.sights.xs.length<=zt:=by unfold zt;omega
  have hcan:∀ H (j:Nat),zn (zg G (n+7)) H (.pure (.func 36 [])) [.pure (.agg l.cells),.pure ((Sl.of (toC (l.sights.xs.length - 1) j)).pv intF 1)]=some (.val (.pure (.bool (canS l (toC (l.sights.xs.length - 1) j))))):=fun H j=>by
   have:=d36 (n+1) H l.habit.step l.habit.place l.habit.sink l.sights l.notes (Sl.of (toC (l.sights.xs.length - 1) j)) hr (by rw [Sl.xs_of,zaj];show l.sights.xs.length - 1+1=l.sights.xs.length;omega) (by rw [Sl.xs_of];exact zbR _ _);rw [Sl.xs_of] at this;exact this
  simp only [Life.cells] at hcan;have hj3:=zhu (m:=l.sights.xs.length - 1) (by omega);obtain ⟨N,hN0⟩:∃ N,N=3 ^ (l.sights.xs.length - 1):=⟨_,rfl⟩
  have hcnt:∀ H,zn (zg G (n+7)) H (.pure (.func 79 [])) [.pure (.agg l.cells)]=some (.val (.pure (.int .i64 (N:Nat)))):=fun H=>d79 (n+6) H l.habit.step l.habit.place l.habit.sink l.sights l.notes N hN0 h1 h9;simp only [Life.cells] at hcnt;rw [<- hN0] at hj3 ⊢;have hN:Hide _:=⟨hN0⟩
  clear hN0;have hlen3:∀ j,(toC (l.sights.xs.length - 1) j).length < 1000:=fun j=>by rw [zaj];omega
  (repeat' first|simp [*,zb,c42]|(apply za<;>intro _ h<;>try simp [-Nat.le_zero_eq] at h))
  refine zF [(5,7),(18,40)] (fun (j:Nat) env H1=>env 5=.pure (.int .i64 j)/\j<=N/\H1.get 0=.cells true [.pure .nils,.pure (.int .i64 0)]/\H1.get 1=.cells true (zx intF (byTo (canS l) (l.sights.xs.length - 1) j))) (fun j=>N - j) 0 ?_ ?_ ?_ ?_
  ·decide
  ·have e:l.sights.xs.length - 1+1=l.sights.xs.length:=by omega
   refine ⟨by simp,Nat.zero_le _,by simp,?_⟩
   simp [byTo,zbz,e]
  ·simp only [zB];omega
  rintro j env H1 ⟨h5,hj,g0,g1⟩;have hfit:j < 9223372036854775807:=by omega
  have hj9:j < 100000:=by omega
  have hlen:=zaV (canS l) (l.sights.xs.length - 1) j;have hle:=zeS (toC (l.sights.xs.length - 1) j);rw [zaj] at hle;have hbd:=zfq (canS l) (l.sights.xs.length - 1) j;have hst:Hide (byTo (canS l) (l.sights.xs.length - 1) (j+1)=if canS l (toC (l.sights.xs.length - 1) j)=true then zfd (byTo (canS l) (l.sights.xs.length - 1) j) (chg (toC (l.sights.xs.length - 1) j)) else byTo (canS l) (l.sights.xs.length - 1) j):=⟨by rw [byTo]⟩
  have hk1:chg (toC (l.sights.xs.length - 1) j) < l.sights.xs.length:=by omega
  obtain ⟨B,hB⟩:∃ B,B=byTo (canS l) (l.sights.xs.length - 1) j:=⟨_,rfl⟩
  rw [<- hB] at g1 hlen hbd hst;have hk2:chg (toC (l.sights.xs.length - 1) j) < B.length:=by omega
  have hbk:=hbd B[chg (toC (l.sights.xs.length - 1) j)] (List.getElem_mem _);have hwr:IntKind.i64.wrap (B[chg (toC (l.sights.xs.length - 1) j)]+1)=B[chg (toC (l.sights.xs.length - 1) j)]+1:=wrap64 (by omega) (by omega);have hn0:=zq g1;have hB':Hide _:=⟨hB⟩
  have e:l.sights.xs.length - 1+1=l.sights.xs.length:=by omega
  rw [e] at hlen;have g1':(H1.set 0 (.cells true [.row 1 1 0 l.sights.xs.length,.pure (.int .i64 0)])).get 1=.cells true (zx intF B):=by rw [zu (by decide)];exact g1
  have fa:FrzK (H1.set 0 (.cells true [.row 1 1 0 l.sights.xs.length,.pure (.int .i64 0)])) false zaB (aggV [.row 1 1 0 l.sights.xs.length,.pure (.int .i64 0)]) (.agg [(Sl.mk false B).pv intF 1,.int .i64 0]) :=
   FrzK.aggV (n:=11) (.cons (zex (f:=intF) (sz:=1) (n:=9) (fun _=>rfl) g1' hlen) (.cons (.pure _) .nil))
  clear hlen hbd hB hle e;(repeat' first|simp [*,zb]|(apply za<;>intro _ h<;>try simp [-Nat.le_zero_eq] at h))
  ·refine ⟨j+1,by omega,by simp,by omega,?_⟩
   rw [hst.h,if_pos (by assumption),zfd,getElem!_pos B _ hk2]
  ·refine ⟨j+1,by omega,by simp,by omega,?_⟩
   rw [hst.h,if_neg (by simp [*])]
  ·have hje:j=N:=by omega
   have:=hB'.h;rw [hje] at this;rw [<- this,zU (zq g0)];exact ⟨_,rfl,fa⟩
 ·(repeat' first|simp [*,zb,c42]|(apply za<;>intro _ h<;>try simp [-Nat.le_zero_eq] at h))
@[simp] theorem d42 (n:Nat) (H:Heap) (l_habit_step:Int) (l_habit_place:Int) (l_habit_sink:Int) (l_sights:Sl Sight) (l_notes:Sl Note) (hs:(fun (l:Life)=>za5 l) (⟨⟨l_habit_step,l_habit_place,l_habit_sink⟩,l_sights,l_notes⟩:Life)):zn (zg G (n+8)) H (.pure (.func 42 [])) [.pure (.agg [.int .i64 l_habit_step,.int .i64 l_habit_place,.int .i64 l_habit_sink,(l_sights).pv Sight.cells 9,(l_notes).pv Note.cells 4])]=some (.val (.pure ((fun (l:Life)=>.agg (if zR l=0 then [(Sl.mk false (byTo (canS l) (l.sights.xs.length - 1) (3 ^ (l.sights.xs.length - 1)))).pv intF 1,.int .i64 0] else [.nils,.int .i64 (zR l)])) (⟨⟨l_habit_step,l_habit_place,l_habit_sink⟩,l_sights,l_notes⟩:Life)))) :=
 zh (ps:=[_]) (caps:=[]) sh42 (e42 n (⟨⟨l_habit_step,l_habit_place,l_habit_sink⟩,l_sights,l_notes⟩:Life) hs)
def ze6 (k:Int):Int:=if k=2 then 4 else if k=1 then 2 else 1
def zbp (a k:Int):Int:=if (a.tdiv (ze6 k)).tmod 2=0 then a+ze6 k else a
def zai (p:List Int->Bool) (m:Nat):Nat->List Int×Bool
 | 0=>(List.replicate m 0,false)
 | j+1=>if p (toC m j)=true then ((zai p m j).1.zipWith zbp (toC m j),true) else zai p m j
theorem zbI (p:List Int->Bool) (m:Nat):∀ j,(zai p m j).1.length=m
 | 0=>by simp [zai]
 | j+1=>by
  rw [zai]
  split
  ·simp [zbI p m j,zaj]
  ·exact zbI p m j
theorem zgZ {a k:Int} (ha:0<=a/\a<=7) (hk:0<=k/\k<=2):(0<=zbp a k/\zbp a k<=7)/\vbin .shl .num (.pure (.int .i64 1)) (.pure (.int .i64 k))=some (.pure (.int .i64 (ze6 k)))/\vbin .or .num (.pure (.int .i64 a)) (.pure (.int .i64 (ze6 k)))=some (.pure (.int .i64 (zbp a k))) /\
  IntKind.i64.wrap (a.tdiv (ze6 k))=a.tdiv (ze6 k)/\IntKind.i64.wrap (a+ze6 k)=a+ze6 k:=by
 have h1:a=0\/a=1\/a=2\/a=3\/a=4\/a=5\/a=6\/a=7:=by omega
 have h2:k=0\/k=1\/k=2:=by omega
 rcases h1 with rfl|rfl|rfl|rfl|rfl|rfl|rfl|rfl<;>rcases h2 with rfl|rfl|rfl<;>exact ⟨⟨by decide,by decide⟩,rfl,rfl,rfl,rfl⟩
theorem zgk (p:List Int->Bool) (m:Nat):∀ j,∀ a∈(zai p m j).1,0<=a/\a<=7
 | 0=>by
  intro a ha;simp [zai] at ha;omega
 | j+1=>by
  have ih:=zgk p m j;intro a ha;rw [zai] at ha
  split at ha
  ·obtain ⟨i,hi,rfl⟩:=List.getElem_of_mem ha;simp at hi ⊢;exact (zgZ (ih _ (List.getElem_mem _)) (zbR m j _ (List.getElem_mem (by omega)))).1
  ·exact ih a ha
def mixT (Z B:List Int) (i:Nat):List Int:=Z.take i++B.drop i
theorem ziD {Z B:List Int} {i:Nat} (h:Z.length=B.length) (hi:i<=B.length):(mixT Z B i).length=B.length:=by simp [mixT];omega
theorem zmf {Z B:List Int} {i:Nat} (h:Z.length=B.length) (hi:i < B.length) (h':i < (mixT Z B i).length):(mixT Z B i)[i]=B[i]:=by
 simp only [mixT];rw [List.getElem_append_right (by simp;omega)];simp [Nat.min_eq_left (show i<=Z.length by omega)]
theorem zlX {Z B:List Int} {i:Nat} (h:Z.length=B.length) (hi:i < B.length):(mixT Z B i).set i (Z[i]'(by omega))=mixT Z B (i+1):=by
 have hl:(Z.take i).length=i:=by simp;omega
 simp only [mixT];rw [List.set_append_right _ _ (by omega),hl,Nat.sub_self,List.drop_eq_getElem_cons hi,List.set_cons_zero,<- zaO (by omega),List.append_assoc];rfl
theorem zmb {Z B:List Int} {i:Nat} (h:Z.length=B.length) (hi:i=B.length):mixT Z B i=Z:=by
 simp only [mixT];rw [List.take_of_length_le (by omega),List.drop_eq_nil_of_le (by omega),List.append_nil]
theorem e21 (n:Nat) (l:Life) (hs:za5 l):zD G (n+10) 21 [.agg l.cells]=some ((if zR l=0 then (if (zai (fitP l) (l.sights.xs.length - 1) (3 ^ (l.sights.xs.length - 1))).2=true then .tup [(Sl.mk false (zai (fitP l) (l.sights.xs.length - 1) (3 ^ (l.sights.xs.length - 1))).1).pv intF 1,.int .i64 0] else .tup [.nils,.int .i64 9]) else .tup [.nils,.int .i64 (zR l)])):=by
 refine zo (zm _) rfl g21 rfl ?_
 have hcc:∀ H,zn (zg G (n+9)) H (.pure (.func 29 [])) [.pure (.agg l.cells)]=some (.val (.pure (.int .i64 (zR l)))):=fun H=>d29 (n+4) H l.habit.step l.habit.place l.habit.sink l.sights l.notes hs;simp only [Life.cells] at hcc
 by_cases hck:zR l=0
 ·have hr:=(za1 l).1 hck;have h1:=hr.one;have h9:=hr.nine;have hw:IntKind.i64.wrap ((l.sights.xs.length:Int) - 1)=((l.sights.xs.length - 1:Nat):Int):=zeX (by omega) (by omega);obtain ⟨m,hm0⟩:∃ m,m=l.sights.xs.length - 1:=⟨_,rfl⟩
  rw [<- hm0] at hw ⊢;have hm1:m*8<=zt:=by unfold zt;omega
  have hm2:m<=zt:=by unfold zt;omega
  have hm8:m<=8:=by omega
  have hm:Hide _:=⟨hm0⟩
  clear hm0;(repeat' first|simp [*,zb,c21]|(apply za<;>intro _ h<;>try simp [-Nat.le_zero_eq] at h))
  refine zel (n:=n) (l:=l) hr (by simp) rfl (fun idc j H1=>3 < idc/\H1.get 0=.cells true (zx intF (zai (fitP l) m j).1)/\H1.get 1=.cells true [.row 0 1 0 m]/\H1.get 2=.cells true [.pure (.bool (zai (fitP l) m j).2)]) ?_ ?_ ?_ ?_ ?_
  ·rintro idc j H1 H2 ⟨hi,g0,g1,g2⟩ hnx hsame;have:=zq g2;exact ⟨hi,by rw [hsame 0 (by omega) (by omega) (by simp)];exact g0,by rw [hsame 1 (by omega) (by omega) (by simp)];exact g1,by rw [hsame 2 (by omega) (by omega) (by simp)];exact g2⟩
  ·intro idc hi
   refine ⟨by simpa using hi,?_,by simp,by simp [zai]⟩
   simp [zai,zbz]
  ·rw [<- hm.h];rintro idc j H1 hj ht ⟨hi,g0,g1,g2⟩;have e:zai (fitP l) m (j+1)=zai (fitP l) m j:=by rw [zai,if_neg (by simp [fitP,ht])]
   rw [e];exact ⟨hi,g0,g1,g2⟩
  ·rw [<- hm.h];intro idc j t H1 hj ht hi hlt;(repeat' first|simp [*,zb]|(apply za<;>intro _ h<;>try simp [-Nat.le_zero_eq] at h));rintro Hb hi2 g0 g1 g2 gc hnx;have hcl:=zaj m j;have e:Hide (zai (fitP l) m (j+1)=((zai (fitP l) m j).1.zipWith zbp (toC m j),true)):=⟨by rw [zai,if_pos (by simp [fitP,ht])]⟩
   have hBl:=zbI (fitP l) m j;have hBb:=zgk (fitP l) m j;generalize (zai (fitP l) m j).2=S0 at *;generalize (zai (fitP l) m j).1=B at *;have hck:=zbR m j;generalize toC m j=C at *;have hZl:(B.zipWith zbp C).length=B.length:=by simp;omega
   have hnx2:2 < Hb.nx:=by omega
   (repeat' first|simp [*,zb]|(apply za<;>intro _ h<;>try simp [-Nat.le_zero_eq] at h))
   refine zF [(8,9),(26,39)] (fun (i:Nat) env H3=>env 26=.pure (.int .i64 i)/\i<=m/\H3.nx=Hb.nx/\H3.get 0=.cells true (zx intF (mixT (B.zipWith zbp C) B i))/\H3.get 1=.cells true [.row 0 1 0 m]/\H3.get 2=.cells true [.pure (.bool true)]/\H3.get idc=.cells true (zx intF C)/\H3.get 3=Hb.get 3) (fun i=>m - i) 0 ?_ ?_ ?_ ?_
   ·decide
   ·refine ⟨by simp,by omega,by simp,by rw [zu (by decide)];simpa [mixT] using g0,by rw [zu (by decide)];exact g1,by rw [zU hnx2],by rw [zu (by omega)];exact gc,by rw [zu (by decide)]⟩
   ·simp only [zB];omega
   rintro i env H3 ⟨h26,hi,gn,k0,k1,k2,kc,k3⟩;have hfit:i < 9223372036854775807:=by omega
   have hXl:=ziD (Z:=B.zipWith zbp C) (B:=B) (i:=i) hZl (by omega);rw [hBl] at hXl;have n0:=zq k0;have hi0:¬ (idc=0):=by omega
   have hi3:¬ (3=0):=by omega
   by_cases him:i < m
   ·have hXg:=zmf (Z:=B.zipWith zbp C) (B:=B) (i:=i) hZl (by omega) (by omega);have hXs:=zlX (Z:=B.zipWith zbp C) (B:=B) (i:=i) hZl (by omega);have hZi:(B.zipWith zbp C)[i]'(by omega)=zbp (B[i]'(by omega)) (C[i]'(by omega)):=by simp
    rw [hZi] at hXs;obtain ⟨b1,b2,b3,b4,b5⟩:=zgZ (hBb _ (List.getElem_mem (l:=B) (n:=i) (by omega))) (hck _ (List.getElem_mem (l:=C) (n:=i) (by omega)));obtain ⟨X,k0,hXl,hXg,hXs⟩:∃ X:List Int,H3.get 0=.cells true (zx intF X)/\X.length=m/\(∀ h,X[i]'h=B[i]'(by omega))/\X.set i (zbp (B[i]'(by omega)) (C[i]'(by omega)))=mixT (B.zipWith zbp C) B (i+1):=⟨_,k0,hXl,fun _=>hXg,hXs⟩
    have hXs':Hide _:=⟨hXs⟩
    have hXg':=hXg (by omega);clear hXs hXg hZi b4 b5;have hcl':C.length=m:=hcl;(repeat' first|simp [*,zb]|(apply za<;>intro _ h<;>try simp [-Nat.le_zero_eq] at h));exact ⟨i+1,by omega,by simp,by omega,by first|rw [hXs'.h]|rw [zU n0]⟩
   ·have hie:i=m:=by omega
    have hXe:=zmb (Z:=B.zipWith zbp C) (B:=B) (i:=i) hZl (by omega);rw [hXe] at k0;have e1:(zai (fitP l) m (j+1)).1=B.zipWith zbp C:=by rw [e.h]
    have e2:(zai (fitP l) m (j+1)).2=true:=by rw [e.h]
    (repeat' first|simp [*,zb]|(apply za<;>intro _ h<;>try simp [-Nat.le_zero_eq] at h))
  ·rw [<- hm.h];rintro idc H' ⟨hi,g0,g1,g2⟩;have hlen:=zbI (fitP l) m (3 ^ m);obtain ⟨ids,hids⟩:=zex (f:=intF) (sz:=1) (n:=9) (fun _=>rfl) g0 hlen;(repeat' first|simp [*,zb]|(apply za<;>intro _ h<;>try simp [-Nat.le_zero_eq] at h))
 ·(repeat' first|simp [*,zb,c21]|(apply za<;>intro _ h<;>try simp [-Nat.le_zero_eq] at h))
theorem zg7 (l:List Span):zb8 l=true↔∀ s∈l,full s:=by
 unfold zb8;rw [allL_iff];simp [full]
theorem zkC {l:Life} (hr:Right l) (c:List Int):Gaps (fun _=>True) (onX l c) (onX l c):=by
 have hd:=fun (k:Nat)=>zdo (k:=c[k]!) hr.habit
 refine ⟨?_,?_,?_,?_,fun _ _ _ _=>trivial⟩
 ·intro k s t h;unfold sub onX onD at *;simp only;omega
 ·intro k s t h;unfold sub onX onD at *;simp only;omega
 ·intro k f t h;have:=hd k;unfold sub onX onD zad at *;simp only at *;omega
 ·intro k f t _ hf ht h;have:=hd k;unfold full sub onX onD zad at *;simp only at *;omega
theorem zne {l:Life} (hr:Right l) (c:List Int):Gaps (fun s=>0<=s.lo/\s.hi<=100) (onH l c) (za9 l c):=by
 have hy:∀ k,k+1 < l.sights.xs.length->0<=l.habit.sink*yrS l.sights.xs k:=fun k hk=>by
  have h1:=hr.yr hk;have h2:yrS l.sights.xs k=l.sights.xs[k+1].year - l.sights.xs[k].year:=by rw [yrS,getElem!_pos _ k (by omega),getElem!_pos _ (k+1) hk]
  rw [h2];exact (zdw hr.habit h1).1
 refine ⟨?_,?_,?_,?_,?_⟩
 ·intro k s t h;unfold onH
  by_cases hk:k+1 < l.sights.xs.length
  ·rw [if_pos hk,if_pos hk];unfold upH sub at *
   split<;>(simp only;omega)
  ·rw [if_neg hk,if_neg hk];exact h
 ·intro k s t h;unfold za9
  by_cases hk:k+1 < l.sights.xs.length
  ·rw [if_pos hk,if_pos hk];unfold zcF sub at *
   split<;>(simp only;omega)
  ·rw [if_neg hk,if_neg hk];exact h
 ·intro k f t h;unfold onH za9 at *
  by_cases hk:k+1 < l.sights.xs.length
  ·rw [if_pos hk] at *;unfold upH zcF sub zad at *;have:=hy k hk
   split<;>rename_i h0<;>simp only [h0,if_true,if_false] at h ⊢<;>omega
  ·rw [if_neg hk] at *;rw [if_neg hk];exact zdJ h (zb1 _)
 ·intro k f t hR hf ht h;unfold onH za9 at *
  by_cases hk:k+1 < l.sights.xs.length
  ·rw [if_pos hk] at *;unfold upH zcF sub zad full at *;have:=hy k hk
   split<;>rename_i h0<;>simp only [h0,if_true,if_false] at h ⊢<;>omega
  ·rw [if_neg hk] at *;unfold sub full zad at *;simp only;omega
 ·intro s t h1 h2;unfold sub at h2;omega
theorem zcw {R:Span->Prop} {on back:Nat->Span->Span} {l:List Span} (g:Gaps R on back) (hR:∀ s∈l,R s) {m r:Nat} (hm:m+1=l.length) (hr:l.length<=r) :
  zaH on back l=if zb8 (zaf on back m r l)=true then some (zaf on back m r l) else none:=by
 by_cases h:∀ i,i < l.length->full (fN on l i)
 ·obtain ⟨h1,h2⟩:=zir g hR hm hr h;rw [zeG h,if_pos ((zg7 _).2 h2),h1]
 ·have h':∃ i,i < l.length/\¬ full (fN on l i):=Classical.byContradiction fun hc=>h fun i hi=>Classical.byContradiction fun hn=>hc ⟨i,hi,hn⟩;rw [zeq h',if_neg (fun e=>zhK g hm (by omega) h' ((zg7 _).1 e))]
section
variable {l:Life} {c:List Int}
theorem znW (hr:Right l) (hc:c.length+1=l.sights.xs.length):thX l c=if zb8 (narX l c)=true then some (narX l c) else none :=
 zcw (zkC hr c) (fun _ _=>trivial) (by simpa using hc) (by simp;omega)
theorem znw (hr:Right l) (hc:c.length+1=l.sights.xs.length):thY l c=if zb8 (narY l c)=true then some (narY l c) else none :=
 zcw (zkC hr c) (fun _ _=>trivial) (by simpa using hc) (by simp;omega)
theorem znX (hr:Right l) (hc:c.length+1=l.sights.xs.length):thH l c=if zb8 (narH l c)=true then some (narH l c) else none :=
 zcw (zne hr c) (fun s hs=>by obtain ⟨a,ha,rfl⟩:=List.mem_map.1 hs;have:=hr.sp ha;omega) (by simpa using hc) (by simp;omega)
theorem zit (hr:Right l) (hc:c.length+1=l.sights.xs.length):zaQ l c=if canS l c=true then some ⟨(narX l c).zipWith Box.mk (narY l c),narH l c,(zae l.sights.xs c).getD []⟩ else none:=by
 unfold zaQ canS;rw [znW hr hc,znw hr hc,znX hr hc]
 by_cases h0:allL (fun m=>zao l.sights.xs m c) l.notes.xs=true
 ·rw [if_pos h0,h0]
  by_cases h1:zb8 (narX l c)=true<;>by_cases h2:zb8 (narY l c)=true<;>by_cases h3:zb8 (narH l c)=true<;>cases h4:zae l.sights.xs c<;>simp [h1,h2,h3,h4]
 ·rw [if_neg h0];simp at h0;simp [h0]
theorem zkm (hr:Right l) (hc:c.length+1=l.sights.xs.length):fitP l c=canS l c:=by
 unfold fitP;rw [zit hr hc]
 split
 ·rename_i h;simp [h]
 ·rename_i h;simp at h;simp [h]
theorem zgs {p q:List Int->Bool} {m:Nat} (h:∀ j,p (toC m j)=q (toC m j)):∀ j,byTo p m j=byTo q m j
 | 0=>rfl
 | j+1=>by rw [byTo,byTo,zgs h j,h j]
theorem zj0 (hr:Right l) (j:Nat):byTo (fitP l) (l.sights.xs.length - 1) j=byTo (canS l) (l.sights.xs.length - 1) j :=
 zgs (fun j=>zkm hr (by rw [zaj];have:=hr.one;omega)) j
end
theorem zl9 {cl:Callee} {env:Env} {H:Heap} {neg:Bool} {n:Nat} {os:List Nat} {x y:Opnd}:step cl env H (.aggEq neg n os x y)=if zbv (x.eval env)=true/\zbv (y.eval env)=true/\(x.eval env).cells.length=n/\(y.eval env).cells.length=n then
   match zay (x.eval env).cells (y.eval env).cells os with
   | some b=>some (.val (.pure (.bool (b != neg))))
   | none=>none
  else none:=rfl
theorem sh15:G.shared 15=false:=by decide
def fewS (l:Life):Bool:=if 9 < l.sights.xs.length\/20 < l.notes.xs.length then true else allL (fun s=>decide (s.letters.length<=20)) l.sights.xs&&decide (l.sights.xs.length<=6)
theorem zkS {l:Life} (h:fewS l=true):za5 l:=by
 unfold fewS at h;intro h1 h2 s hs;rw [if_neg (by omega)] at h;simp only [Bool.and_eq_true] at h
 simpa using allL_iff.1 h.1 s hs
theorem sh5:G.shared 5=false:=by decide
theorem e5 (n:Nat) (l:Life):zD G (n+1) 5 [.agg l.cells]=some (.bool (fewS l)):=by
 refine zo (zm _) rfl g5 rfl ?_
 (repeat' first|simp [*,zb,c5]|(apply za<;>intro _ h<;>try simp [-Nat.le_zero_eq] at h))
 all_goals try (rw [fewS,if_pos (by omega)];done)
 have hP:Hide (fewS l=(allL (fun s=>decide (s.letters.length<=20)) l.sights.xs&&decide (l.sights.xs.length<=6))):=⟨by rw [fewS,if_neg (by omega)]⟩
 generalize fewS l=P at *
 refine zF [(2,3),(14,28)] (fun (i:Nat) env H=>env 3=.pure (.int .i64 i)/\i<=l.sights.xs.length/\Hide (allL (fun s=>decide (s.letters.length<=20)) l.sights.xs=allL (fun s=>decide (s.letters.length<=20)) (l.sights.xs.drop i))) (fun i=>l.sights.xs.length - i) 0 ?_ ?_ ?_ ?_
 ·decide
 ·simp
 ·simp only [zB];omega
 rintro i env H ⟨h3,hi,hn⟩;have hfit:i < 9223372036854775807:=by omega
 (repeat' first|simp [*,zb]|(apply za<;>intro _ h<;>try simp [-Nat.le_zero_eq] at h))
 ·have hlt:i < l.sights.xs.length:=by assumption
  have hf:decide (l.sights.xs[i].letters.length<=20)=false:=by simp;omega
  rw [hP.h,hn.h,zaF hlt,hf];rfl
 ·have hlt:i < l.sights.xs.length:=by assumption
  have hf:decide (l.sights.xs[i].letters.length<=20)=true:=by simp;omega
  exact ⟨i+1,by omega,by simp,by omega,⟨by rw [hn.h,zaF hlt,hf];rfl⟩⟩
 rw [hP.h,hn.h,zc2 (by omega)];simp;omega
@[simp] theorem d5 (n:Nat) (H:Heap) (l_habit_step:Int) (l_habit_place:Int) (l_habit_sink:Int) (l_sights:Sl Sight) (l_notes:Sl Note):zn (zg G (n+1)) H (.pure (.func 5 [])) [.pure (.agg [.int .i64 l_habit_step,.int .i64 l_habit_place,.int .i64 l_habit_sink,(l_sights).pv Sight.cells 9,(l_notes).pv Note.cells 4])]=some (.val (.pure ((fun (l:Life)=>.bool (fewS l)) (⟨⟨l_habit_step,l_habit_place,l_habit_sink⟩,l_sights,l_notes⟩:Life)))) :=
 zh (ps:=[_]) (caps:=[]) sh5 (e5 n (⟨⟨l_habit_step,l_habit_place,l_habit_sink⟩,l_sights,l_notes⟩:Life))
def zY (p:List Int->Bool) (m:Nat):Nat->Option (List Int)
 | 0=>none
 | j+1=>if p (toC m j)=true then (match zY p m j with
  | none=>some (toC m j)
  | some b=>if chg (toC m j) < chg b then some (toC m j) else some b) else zY p m j
theorem zbJ (p:List Int->Bool) (m:Nat):∀ j c,zY p m j=some c->c.length=m
 | 0,c,h=>by simp [zY] at h
 | j+1,c,h=>by
  have ih:=zbJ p m j;rw [zY] at h
  split at h
  ·split at h
   ·simp at h;subst h;exact zaj m j
   ·rename_i b hb
    split at h
    ·simp at h;subst h;exact zaj m j
    ·simp at h;subst h;exact ih _ hb
  ·exact ih _ h
def zde:Option (List Int)->PV
 | none=>.tup [.nils,.bool false]
 | some c=>.tup [(Sl.mk false c).pv intF 1,.bool true]
def leastJ (m idc:Nat) (H:Heap):Option (List Int)->Prop
 | none=>H.get 0=.cells true [.pure .nils]/\H.get 1=.cells true [.pure (.bool false)]
 | some c=>∃ id,2 < id/\id≠idc/\H.get 0=.cells true [.row id 1 0 m]/\H.get 1=.cells true [.pure (.bool true)]/\H.get id=.cells true (zx intF c)
theorem leastJ.stab {m idc:Nat} {H1 H2:Heap} {o:Option (List Int)} (hi:2 < idc) (h:leastJ m idc H1 o) (hs:∀ i,i < H1.nx->i≠idc->i≠2->H2.get i=H1.get i):leastJ m idc H2 o:=by
 cases o with
 | none =>
  obtain ⟨h0,h1⟩:=h;exact ⟨by rw [hs 0 (zq h0) (by omega) (by omega)];exact h0,by rw [hs 1 (zq h1) (by omega) (by omega)];exact h1⟩
 | some c =>
  obtain ⟨id,h2,h3,h0,h1,hg⟩:=h;exact ⟨id,h2,h3,by rw [hs 0 (zq h0) (by omega) (by omega)];exact h0,by rw [hs 1 (zq h1) (by omega) (by omega)];exact h1,by rw [hs id (zq hg) h3 (by omega)];exact hg⟩
theorem sh30:G.shared 30=false:=by decide
theorem e30 (n:Nat) (l:Life) (hr:Right l):zD G (n+10) 30 [.agg l.cells]=some (zde (zY (fitP l) (l.sights.xs.length - 1) (3 ^ (l.sights.xs.length - 1)))):=by
 refine zo (zm _) rfl g30 rfl ?_
 have h1:=hr.one;have h9:=hr.nine;(repeat' first|simp [*,zb,c30]|(apply za<;>intro _ h<;>try simp [-Nat.le_zero_eq] at h))
 refine zel (n:=n) (l:=l) hr (by simp) rfl (fun idc j H1=>2 < idc/\leastJ (l.sights.xs.length - 1) idc H1 (zY (fitP l) (l.sights.xs.length - 1) j)) ?_ ?_ ?_ ?_ ?_
 ·rintro idc j H1 H2 ⟨hi,hJ⟩ hnx hsame;exact ⟨hi,hJ.stab hi hsame⟩
 ·intro idc hi;exact ⟨by simpa using hi,by simp [zY,leastJ]⟩
 ·rintro idc j H1 hj ht ⟨hi,hJ⟩
  refine ⟨hi,?_⟩
  rw [zY,if_neg (by simp [fitP,ht])];exact hJ
 ·intro idc j t H1 hj ht hi hlt;have hi2:2 < idc:=by simpa using hi
  clear hi;(repeat' first|simp [*,zb]|(apply za<;>intro _ h<;>try simp [-Nat.le_zero_eq] at h));rintro Hb hJ gc hnx;have hcl:=zaj (l.sights.xs.length - 1) j;have hst:Hide (zY (fitP l) (l.sights.xs.length - 1) (j+1)=match zY (fitP l) (l.sights.xs.length - 1) j with
   | none=>some (toC (l.sights.xs.length - 1) j)
   | some b=>if chg (toC (l.sights.xs.length - 1) j) < chg b then some (toC (l.sights.xs.length - 1) j) else some b):=⟨by rw [zY,if_pos (by simp [fitP,ht])]⟩
  have hck:(toC (l.sights.xs.length - 1) j).length < 1000:=by omega
  have hm8:l.sights.xs.length - 1<=8:=by omega
  have hn9:Hide _:=⟨hlt⟩
  generalize hm:l.sights.xs.length - 1=m at *;generalize hC:toC m j=C at *;clear hm hC hj ht hlt;have hsc:zI Hb 1 (.row idc 1 0 m)=some (zx intF C,C.length):=OwnV.slice (fun _=>rfl) (.inr ⟨idc,by rw [hcl],gc⟩)
  cases ho:zY (fitP l) m j with
  | none =>
   rw [ho] at hJ hst;obtain ⟨g0,g1⟩:=hJ;have hL:zY (fitP l) m (j+1)=some C:=hst.h;clear hst;(repeat' first|simp [*,zb]|(apply za<;>intro _ h<;>try simp [-Nat.le_zero_eq] at h))
   refine zd3 (caps:=[]) (by decide) ?_
   refine zdr (b:=false) (fun _=>rfl) g32 hsc rfl (fun h=>by cases h) (fun _=>rfl) (by decide) (fun _=>rfl) (by simp [zt];omega) ?_
   rintro v' H' hov hnl hx hsame hnew;rcases hov with h|⟨id',hv,g'⟩
   ·exfalso;obtain ⟨ha,hb⟩:=h;rw [hb] at hnl;simp [isNil] at hnl
   subst hv;have hid':Hb.nx<=id':=hnew id' ⟨_,_,_,rfl⟩;have g0':H'.get 0=.cells true [.pure .nils]:=by rw [hsame 0 (by omega)];exact g0
   have g1':H'.get 1=.cells true [.pure (.bool false)]:=by rw [hsame 1 (by omega)];exact g1
   have gc':H'.get idc=.cells true (zx intF C):=by rw [hsame idc (zq gc)];exact gc
   have g2':Hide (H'.get 2=Hb.get 2):=⟨hsame 2 hnx⟩
   have l0:=zq g0';have l1:=zq g1';have lc:=zq gc;have n0:¬ (0=id'):=by omega
   have n1:¬ (1=id'):=by omega
   have n2:¬ (2=id'):=by omega
   have nc:¬ (id'=idc):=by omega
   have nc':¬ (idc=id'):=by omega
   have c0:¬ (idc=0):=by omega
   have c1:¬ (idc=1):=by omega
   clear g0 g1 gc hsame hnew hnl hsc;(repeat' first|simp [*,zb]|(apply za<;>intro _ h<;>try simp [-Nat.le_zero_eq] at h))
   refine ⟨g2'.h,id',by omega,nc,by simp [*],by simp [*],?_⟩
   rw [zu (by omega),zu (by omega)];exact g'
  | some b =>
   rw [ho] at hJ hst;obtain ⟨id,i2,i3,g0,g1,gi⟩:=hJ;have hbl:=zbJ _ _ _ _ ho;obtain ⟨s1,hs1,hf1⟩:=zjv (f:=intF) (sz:=1) (n:=10) (fun _=>rfl) gc hcl;obtain ⟨s2,hs2,hf2⟩:=zjv (f:=intF) (sz:=1) (n:=10) (fun _=>rfl) gi hbl;have hc1:zD G (n+7) 55 [s1.pv intF 1]=some (.int .i64 (chg C)):=by
    have:=e55 (n+6) s1 (by rw [hs1];omega);rw [hs1] at this;exact this
   have hc2:zD G (n+7) 55 [s2.pv intF 1]=some (.int .i64 (chg b)):=by
    have:=e55 (n+6) s2 (by rw [hs2];omega);rw [hs2] at this;exact this
   (repeat' first|simp [*,zb]|(apply za<;>intro _ h<;>try simp [-Nat.le_zero_eq] at h))
   refine zft (caps:=[]) (by decide) (.cons hf1 .nil) hc1 rfl ?_
   (repeat' first|simp [*,zb]|(apply za<;>intro _ h<;>try simp [-Nat.le_zero_eq] at h))
   refine zft (caps:=[]) (by decide) (.cons hf2 .nil) hc2 rfl ?_
   (repeat' first|simp [*,zb]|(apply za<;>intro _ h<;>try simp [-Nat.le_zero_eq] at h))
   ·have hL:zY (fitP l) m (j+1)=some C:=by rw [hst.h];exact if_pos (by assumption)
    clear hst hf1 hf2
    refine zd3 (caps:=[]) (by decide) ?_
    refine zdr (b:=false) (fun _=>rfl) g32 hsc rfl (fun h=>by cases h) (fun _=>rfl) (by decide) (fun _=>rfl) (by simp [zt];omega) ?_
    rintro v' H' hov hnl hx hsame hnew;rcases hov with h|⟨id',hv,g'⟩
    ·exfalso;obtain ⟨ha,hb⟩:=h;rw [hb] at hnl;simp [isNil] at hnl
    subst hv;have hid':Hb.nx<=id':=hnew id' ⟨_,_,_,rfl⟩;have g0':H'.get 0=.cells true [.row id 1 0 m]:=by rw [hsame 0 (by omega)];exact g0
    have g1':H'.get 1=.cells true [.pure (.bool true)]:=by rw [hsame 1 (by omega)];exact g1
    have gc':H'.get idc=.cells true (zx intF C):=by rw [hsame idc (zq gc)];exact gc
    have g2':Hide (H'.get 2=Hb.get 2):=⟨hsame 2 hnx⟩
    have l0:=zq g0';have l1:=zq g1';have lc:=zq gc;have n0:¬ (0=id'):=by omega
    have n1:¬ (1=id'):=by omega
    have n2:¬ (2=id'):=by omega
    have nc:¬ (id'=idc):=by omega
    have nc':¬ (idc=id'):=by omega
    have c0:¬ (idc=0):=by omega
    have c1:¬ (idc=1):=by omega
    clear g0 g1 gc hsame hnew hnl hsc;(repeat' first|simp [*,zb]|(apply za<;>intro _ h<;>try simp [-Nat.le_zero_eq] at h))
    refine ⟨g2'.h,id',by omega,nc,by simp [*],by simp [*],?_⟩
    rw [zu (by omega),zu (by omega)];exact g'
   ·have hL:zY (fitP l) m (j+1)=some b:=by rw [hst.h];exact if_neg (by omega)
    rw [hL];exact ⟨id,i2,i3,g0,g1,gi⟩
 ·rintro idc H' ⟨hi,hJ⟩
  cases ho:zY (fitP l) (l.sights.xs.length - 1) (3 ^ (l.sights.xs.length - 1)) with
  | none =>
   rw [ho] at hJ;obtain ⟨g0,g1⟩:=hJ;(repeat' first|simp [*,zb,zde]|(apply za<;>intro _ h<;>try simp [-Nat.le_zero_eq] at h))
  | some c =>
   rw [ho] at hJ;obtain ⟨id,i2,i3,g0,g1,gi⟩:=hJ;have hl:=zbJ _ _ _ _ ho;obtain ⟨ids,hids⟩:=zex (f:=intF) (sz:=1) (n:=9) (fun _=>rfl) gi hl;(repeat' first|simp [*,zb,zde]|(apply za<;>intro _ h<;>try simp [-Nat.le_zero_eq] at h))
@[simp] theorem d30 (n:Nat) (H:Heap) (l_habit_step:Int) (l_habit_place:Int) (l_habit_sink:Int) (l_sights:Sl Sight) (l_notes:Sl Note) (hr:(fun (l:Life)=>Right l) (⟨⟨l_habit_step,l_habit_place,l_habit_sink⟩,l_sights,l_notes⟩:Life)):zn (zg G (n+10)) H (.pure (.func 30 [])) [.pure (.agg [.int .i64 l_habit_step,.int .i64 l_habit_place,.int .i64 l_habit_sink,(l_sights).pv Sight.cells 9,(l_notes).pv Note.cells 4])]=some (.val (.pure ((fun (l:Life)=>zde (zY (fitP l) (l.sights.xs.length - 1) (3 ^ (l.sights.xs.length - 1)))) (⟨⟨l_habit_step,l_habit_place,l_habit_sink⟩,l_sights,l_notes⟩:Life)))) :=
 zh (ps:=[_]) (caps:=[]) sh30 (e30 n (⟨⟨l_habit_step,l_habit_place,l_habit_sink⟩,l_sights,l_notes⟩:Life) hr)
end Go.Proofs.YtifmedfpnnfmoaaGreatDoor.Vm
