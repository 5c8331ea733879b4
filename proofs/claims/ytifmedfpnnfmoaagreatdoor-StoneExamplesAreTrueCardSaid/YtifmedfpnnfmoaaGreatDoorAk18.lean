/- The courses of a life, as the program yields them. What the functions compute that go through all courses. What Kinds and Courses compute: the program's, and the specification's. What the program tells of a course is what the specification tells: plain Lean. The specification's comparing, and which lives are few. What makes an account of a stone's life true: the program's led, the specification's gap. What the program's True computes, and the specification's: the first sight or note that is not so. The example that follows the nearest points is true. Plain Lean. stone.Example: walked. -/
import Derived.Test.YtifmedfpnnfmoaaGreatDoorAk17
import Derived.Test.YtifmedfpnnfmoaaGreatDoorAk12
namespace Go.Proofs.YtifmedfpnnfmoaaGreatDoor.Vm
open Go
set_option linter.unusedSimpArgs false
set_option linter.unusedVariables false
set_option maxHeartbeats 4000000
def toC:Nat->Nat->List Int
 | 0,_=>[]
 | m+1,j=>((j % 3:Nat):Int)::toC m (j / 3)
def incC:List Int->Option (List Int)
 | []=>none
 | d::r=>if d < 2 then some ((d+1)::r) else (incC r).map (0 :: ·)
theorem zbq:∀ (m j:Nat),(toC m j).length=m
 | 0,_=>rfl
 | m+1,j=>by simp [toC,zbq m]
theorem zbR:∀ (m j:Nat),∀ k∈toC m j,0<=k/\k<=2
 | 0,_=>by simp [toC]
 | m+1,j=>by
  intro k hk;rcases List.mem_cons.1 hk with rfl|hk
  ·omega
  ·exact zbR m _ k hk
theorem zh0:∀ (m:Nat),toC m 0=List.replicate m 0
 | 0=>rfl
 | m+1=>by simp [toC,zh0 m,List.replicate_succ]
theorem zdk:∀ (m j:Nat),j < 3 ^ m->incC (toC m j)=if j+1 < 3 ^ m then some (toC m (j+1)) else none
 | 0,j,h=>by
  have:¬ (j+1 < 3 ^ 0):=by simp
  rw [if_neg this];rfl
 | m+1,j,h=>by
  have hj:j / 3 < 3 ^ m:=by rw [Nat.pow_succ] at h;omega
  rw [toC,incC,zdk m _ hj]
  by_cases hd:((j % 3:Nat):Int) < 2
  ·have h1:(j+1) % 3=j % 3+1:=by omega
   have h2:(j+1) / 3=j / 3:=by omega
   have h3:j+1 < 3 ^ (m+1):=by rw [Nat.pow_succ] at h ⊢;omega
   rw [if_pos hd,if_pos h3,toC,h1,h2];simp
  ·have h1:(j+1) % 3=0:=by omega
   have h2:(j+1) / 3=j / 3+1:=by omega
   rw [if_neg hd]
   by_cases h3:j+1 < 3 ^ (m+1)
   ·have h4:j / 3+1 < 3 ^ m:=by rw [Nat.pow_succ] at h3;omega
    rw [if_pos h3,if_pos h4,toC,h1,h2];rfl
   ·have h4:¬ (j / 3+1 < 3 ^ m):=by rw [Nat.pow_succ] at h3 h;omega
    rw [if_neg h3,if_neg h4];rfl
theorem zgV {α:Type} {f:α->List PV} {sz n:Nat} (hf:∀ a,(f a).all (PV.coldN n)=true) (l:List α):PV.coldN (n+1) ((Sl.of l).pv f sz)=true:=by
 cases l with
 | nil=>rfl
 | cons a l=>simp [Sl.of,Sl.pv,PV.coldN];exact ⟨by simpa using hf a,fun a _=>by simpa using hf a⟩
theorem zj8 (o:Option TellR):(zaK o).cold=true:=by
 cases o with
 | none=>rfl
 | some t =>
  have h1:=zgV (f:=Box.cells) (sz:=4) (n:=9) (fun a=>rfl) t.boxes;have h2:=zgV (f:=Span.cells) (sz:=2) (n:=9) (fun a=>rfl) t.heights;have h3:=zgV (f:=strF) (sz:=1) (n:=9) (fun a=>rfl) t.letters;simp [zaK,PV.cold,PV.coldN,TellR.told] at *;simp [h1,h2,h3,PV.coldN]
theorem zlb (n:Nat) (l:Life) (hr:Right l) (H:Heap) (id0:Nat) (r:LoopR) (hr1:r.state=.ready) (hr2:r.pending=.normal) (hr3:r.params.length=2) (hid0:id0 < H.nx) (hg:H.get id0=.loop r)
  (J:Nat->Nat->Heap->Prop)
  (hstab:∀ idc j H1 H2,J idc j H1->H1.nx<=H2.nx->(∀ i,i < H1.nx->i≠idc->i≠id0->H2.get i=H1.get i)->J idc j H2)
  (h0:∀ idc,H.nx<=idc->J idc 0 H)
  (hskip:∀ idc j H1,j < 3 ^ (l.sights.xs.length - 1)->zao l (toC (l.sights.xs.length - 1) j)=none->J idc j H1->J idc (j+1) H1)
  (hbody:∀ idc j t H1,j < 3 ^ (l.sights.xs.length - 1)->zao l (toC (l.sights.xs.length - 1) j)=some t->J idc j H1->H.nx<=idc->H1.get idc=.cells true (zn intF (toC (l.sights.xs.length - 1) j))->H1.get id0=.loop r ->
   wp (zg G (n+7)) r.assign ((r.params.zip [.row idc 1 0 (l.sights.xs.length - 1),.pure (.agg t.told.cells)]).foldl (fun e x=>upd e x.1 x.2) r.env) H1 (fun x env2 H2=>x=.normal/\H2.get id0=.loop r /\
    wp (zg G (n+7)) r.body env2 (H2.set id0 (.loop { r with state:=.busy })) (fun x _ H3=>x=.normal/\H3.get id0=.loop { r with state:=.busy }/\H3.get idc=.cells true (zn intF (toC (l.sights.xs.length - 1) j))/\H1.nx<=H3.nx/\J idc (j+1) H3) .mk) .mk) :
  ∃ v H',Vm.call G (n+9) (.fn 98) [.yield id0,.pure (.ptr false l.cells 0)] H=some (v,H')/\H'.get id0=.loop r/\∃ idc,J idc (3 ^ (l.sights.xs.length - 1)) H':=by
 have h1:=hr.one;have h9:=hr.nine;have hw:IntKind.i64.wrap ((l.sights.xs.length:Int) - 1)=((l.sights.xs.length - 1:Nat):Int):=zeh (by omega) (by omega);obtain ⟨m,hm0⟩:∃ m,m=l.sights.xs.length - 1:=⟨_,rfl⟩
 rw [<- hm0] at hskip hbody hw ⊢;have hm8:m<=8:=by omega
 have hmx:m*8<=zq:=by unfold zq;omega
 have hmy:m<=zq:=by unfold zq;omega
 have hm:Hide _:=⟨hm0⟩
 clear hm0;have hlr:Hide (r={ r with state:=.ready,pending:=.normal }):=⟨by rw [<- hr1,<- hr2]⟩
 refine zgI rfl g98 rfl ?_
 (repeat' first|simp [*,ze,c98]|(apply zb<;>intro _ h<;>try simp [-Nat.le_zero_eq] at h));have hs0:H.nx≠id0:=by omega
 refine zU [(4,6),(12,45)] (fun (j:Nat) env H1=>j < 3 ^ m/\H1.get H.nx=.cells true (zn intF (toC m j))/\H1.get id0=.loop r/\J H.nx j H1) (fun j=>3 ^ m - j) 0 ?_ ?_ ?_ ?_
 ·decide
 ·refine ⟨Nat.pos_of_ne_zero (by simp),?_,?_,?_⟩
  ·rw [zaY,zh0,zbB];simp
  ·rw [zA hid0];exact hg
  ·exact hstab _ _ _ _ (h0 _ (Nat.le_refl _)) (by simp) (fun i hi _ _=>zA hi)
 ·have:3 ^ m<=3 ^ 8:=Nat.pow_le_pow_right (by decide) hm8;simp only [zN];have:(3 ^ 8:Nat)=6561:=rfl;omega
 rintro j env H1 ⟨hj,hgc,hgl,hJ⟩;have hidc:=zJ hgc;have hid1:=zay (H:=H1) (i:=id0) (by rw [hgl];simp);have hcl:=zbq m j;have hown:OwnV intF 1 H1 (.row H.nx 1 0 m) (toC m j):=.inr ⟨H.nx,by rw [hcl],hgc⟩;obtain ⟨s,hs1,hs2⟩:∃ s:Sl Int,s.xs=toC m j/\FrzK H1 true 12 (.row H.nx 1 0 m) (s.pv intF 1):=by
  rcases hown.frz (k:=true) (n:=10) (fun _=>rfl) with h|⟨h,h'⟩
  ·cases hc:toC m j with
   | nil=>rw [hc] at h;exact ⟨.nil,rfl,h⟩
   | cons a q=>rw [hc] at h;exact ⟨.mk true (a::q),rfl,h⟩
  ·exact ⟨.mk true [],h.symm,h'⟩
 have htell:zK G (n+8) 48 [.agg l.cells,s.pv intF 1]=some (zaK (zao l (toC m j))):=by
  have:=e48 (n+1) l s hr (by have:=hm.h;rw [hs1,hcl];omega) (by rw [hs1];exact zbR m j);rw [hs1] at this;exact this
 (repeat' first|simp [*,ze]|(apply zb<;>intro _ h<;>try simp [-Nat.le_zero_eq] at h))
 refine zjK (caps:=[]) sh48 (.cons (.pure (.agg l.cells)) (.cons hs2 .nil)) htell (zj8 _) ?_
 have hs1':¬ (id0=H.nx):=by omega
 cases ht:zao l (toC m j) with
 | none =>
  obtain ⟨H9,h9e⟩:∃ H9,H9=(H1.alloc (.cells true [.pure .nils,.pure .nils,.pure .nils])).set H1.nx (.cells true [.pure .nils,.pure .nils,.pure .nils]):=⟨_,rfl⟩
  have gc9:H9.get H.nx=.cells true (zn intF (toC m j)):=by rw [h9e,zt (by omega),zA hidc];exact hgc
  have gl9:H9.get id0=.loop r:=by rw [h9e,zt (by omega),zA hid1];exact hgl
  have J9:J H.nx (j+1) H9:=hskip _ _ _ hj ht (hstab _ _ _ _ hJ (by rw [h9e];simp) (fun i hi _ _=>by rw [h9e,zt (by omega),zA hi]));clear hskip hbody hJ;(repeat' first|simp [*,ze,zaK]|(apply zb<;>intro _ h<;>try simp [-Nat.le_zero_eq] at h));rw [<- h9e];clear h9e
  refine zU [(6,6),(28,45)] (fun (k:Nat) env2 H2=>env2 28=.pure (.int .i64 k)/\k<=m/\H2.get H.nx=.cells true (zn intF (List.replicate k 0++(toC m j).drop k))/\H2.get id0=.loop r/\J H.nx (j+1) H2 /\
    Hide (incC (toC m j)=(incC ((toC m j).drop k)).map (List.replicate k 0 ++ ·))) (fun k=>m - k) 0 ?_ ?_ ?_ ?_
  ·decide
  ·refine ⟨by simp,by omega,by simpa using gc9,gl9,J9,⟨by simp⟩⟩
  ·simp only [zN];omega
  rintro k env2 H2 ⟨h28,hk,hgc2,hgl2,hJ2,hinc⟩;have hfitk:k < 9223372036854775807:=by omega
  have hXl:(List.replicate k 0++(toC m j).drop k).length=m:=by rw [List.length_append,List.length_replicate,List.length_drop,hcl];omega
  have hXk:∀ (h:k < m) h',(List.replicate k 0++(toC m j).drop k)[k]'h'=(toC m j)[k]'(by omega):=fun h h'=>by
   rw [List.getElem_append_right (by simp)];simp
  have hXs:∀ (h:k < m) x,(List.replicate k 0++(toC m j).drop k).set k x=List.replicate k 0++x::(toC m j).drop (k+1):=fun h x=>by
   rw [List.set_append_right _ _ (by simp),List.length_replicate,Nat.sub_self,List.drop_eq_getElem_cons (by omega),List.set_cons_zero]
  have hck:∀ (h:k < m),0<=(toC m j)[k]'(by omega)/\(toC m j)[k]'(by omega)<=2:=fun h=>zbR m j _ (List.getElem_mem _);have hwk:∀ (h:k < m),IntKind.i64.wrap ((toC m j)[k]'(by omega)+1)=(toC m j)[k]'(by omega)+1:=fun h=>by have:=hck h;exact wrap64 (by omega) (by omega)
  have hi1:∀ (h:k < m),(toC m j)[k]'(by omega) < 2->Hide (j+1 < 3 ^ m/\toC m (j+1)=List.replicate k 0++((toC m j)[k]'(by omega)+1)::(toC m j).drop (k+1)):=fun h h2=>⟨by
   have e1:=hinc.h;rw [List.drop_eq_getElem_cons (by omega),incC,if_pos h2,zdk m j hj] at e1
   split at e1
   ·rename_i h3;simp at e1;exact ⟨h3,e1⟩
   ·simp at e1⟩
  have hi2:∀ (h:k < m),¬ (toC m j)[k]'(by omega) < 2->Hide (incC (toC m j)=(incC ((toC m j).drop (k+1))).map (List.replicate (k+1) 0 ++ ·)):=fun h h2=>⟨by
   have e1:=hinc.h;rw [List.drop_eq_getElem_cons (by omega),incC,if_neg h2] at e1;rw [e1,List.replicate_succ',Option.map_map];simp [Function.comp_def]⟩
  have hi3:k=m->Hide (¬ j+1 < 3 ^ m):=fun h=>⟨fun h3=>by
   have e1:=hinc.h;rw [List.drop_eq_nil_of_le (by omega),zdk m j hj,if_pos h3] at e1;simp [incC] at e1⟩
  have hlen9:Hide _:=⟨hcl⟩
  obtain ⟨X,hX⟩:∃ X,X=List.replicate k 0++(toC m j).drop k:=⟨_,rfl⟩
  have hXk':Hide (∀ (h:k < m) h',X[k]'h'=(toC m j)[k]'(by omega)):=⟨by subst hX;exact hXk⟩
  rw [<- hX] at hgc2 hXl hXs;have hX':Hide _:=⟨hX⟩
  have hXs':Hide _:=⟨hXs⟩
  clear hXk hX hXs hinc;have hidc2:=zJ hgc2;have hid2:=zay (H:=H2) (i:=id0) (by rw [hgl2];simp);have hJs:∀ o,Hide (J H.nx (j+1) (H2.set H.nx o)):=fun o=>⟨hstab _ _ _ _ hJ2 (by simp) (fun i _ hi _=>zt hi)⟩
  have hlw:∀ (h:k < m) h',IntKind.i64.wrap (X[k]'h'+1)=X[k]'h'+1:=fun h h'=>by rw [hXk'.h h];exact hwk h
  have hs1':¬ (id0=H.nx):=by omega
  have hJ2':Hide _:=⟨hJ2⟩
  clear hwk hJ2;(repeat' first|simp [*,ze]|(apply zb<;>intro _ h<;>try simp [-Nat.le_zero_eq] at h))
  ·have hkm:k < m:=by assumption
   have h2:X[k]'(by omega) < 2:=by assumption
   rw [hXk'.h hkm] at h2;obtain ⟨h3,h4⟩:=(hi1 hkm h2).h
   refine ⟨j+1,by omega,h3,?_,(hJs _).h⟩
   rw [h4,hXs'.h hkm,hXk'.h hkm]
  ·have hkm:k < m:=by assumption
   have h2:¬ X[k]'(by omega) < 2:=by omega
   rw [hXk'.h hkm] at h2
   refine ⟨k+1,by omega,by simp,by omega,?_,(hJs _).h,hi2 hkm h2⟩
   rw [hXs'.h hkm,List.replicate_succ'];simp
  ·have hkm:k=m:=by omega
   have h3:=(hi3 hkm).h;have h4:3 ^ m=j+1:=by omega
   rw [h4];exact ⟨_,hJ2'.h⟩
 | some t =>
  (repeat' first|simp [*,ze,zaK]|(apply zb<;>intro _ h<;>try simp [-Nat.le_zero_eq] at h));obtain ⟨H9,h9e⟩:∃ H9,H9=(H1.alloc (.cells true [.pure .nils,.pure .nils,.pure .nils])).set H1.nx (.cells true [.pure (Sl.pv Box.cells 4 t.told.boxes),.pure (Sl.pv Span.cells 2 t.told.heights),.pure (Sl.pv strF 1 t.told.letters)]):=⟨_,rfl⟩
  have gc9:H9.get H.nx=.cells true (zn intF (toC m j)):=by rw [h9e,zt (by omega),zA hidc];exact hgc
  have gl9:H9.get id0=.loop r:=by rw [h9e,zt (by omega),zA hid1];exact hgl
  have J9:J H.nx j H9:=hstab _ _ _ _ hJ (by rw [h9e];simp) (fun i hi _ _=>by rw [h9e,zt (by omega),zA hi]);rw [<- h9e]
  refine zi9 gl9 hr1 (by rw [hr3];rfl) ?_
  refine (hbody H.nx j t _ hj ht J9 (Nat.le_refl _) gc9 gl9).mono ?_
  rintro x env5 H5 ⟨rfl,gl5,hw5⟩
  refine ⟨rfl,gl5,hw5.mono ?_⟩
  rintro x env6 H6 ⟨rfl,g1,g2,g3,g4⟩
  refine ⟨rfl,g1,?_⟩
  rw [<- hlr.h];clear hskip hbody hJ J9 gc9 gl9 h9e hw5;obtain ⟨H9,h9e⟩:∃ H9,H9=H6.set id0 (.loop r):=⟨_,rfl⟩
  have hid6:=zay (H:=H6) (i:=id0) (by rw [g1];simp);have gc9:H9.get H.nx=.cells true (zn intF (toC m j)):=by rw [h9e,zt (by omega)];exact g2
  have gl9:H9.get id0=.loop r:=by rw [h9e,z8 hid6]
  have J9:J H.nx (j+1) H9:=hstab _ _ _ _ g4 (by rw [h9e];simp) (fun i hi _ hi2=>by rw [h9e,zt hi2]);rw [<- h9e];clear h9e g1 g2 g3 g4;(repeat' first|simp [*,ze]|(apply zb<;>intro _ h<;>try simp [-Nat.le_zero_eq] at h))
  refine zU [(6,6),(28,45)] (fun (k:Nat) env2 H2=>env2 28=.pure (.int .i64 k)/\k<=m/\H2.get H.nx=.cells true (zn intF (List.replicate k 0++(toC m j).drop k))/\H2.get id0=.loop r/\J H.nx (j+1) H2 /\
    Hide (incC (toC m j)=(incC ((toC m j).drop k)).map (List.replicate k 0 ++ ·))) (fun k=>m - k) 0 ?_ ?_ ?_ ?_
  ·decide
  ·refine ⟨by simp,by omega,by simpa using gc9,gl9,J9,⟨by simp⟩⟩
  ·simp only [zN];omega
  rintro k env2 H2 ⟨h28,hk,hgc2,hgl2,hJ2,hinc⟩;have hfitk:k < 9223372036854775807:=by omega
  have hXl:(List.replicate k 0++(toC m j).drop k).length=m:=by rw [List.length_append,List.length_replicate,List.length_drop,hcl];omega
  have hXk:∀ (h:k < m) h',(List.replicate k 0++(toC m j).drop k)[k]'h'=(toC m j)[k]'(by omega):=fun h h'=>by
   rw [List.getElem_append_right (by simp)];simp
  have hXs:∀ (h:k < m) x,(List.replicate k 0++(toC m j).drop k).set k x=List.replicate k 0++x::(toC m j).drop (k+1):=fun h x=>by
   rw [List.set_append_right _ _ (by simp),List.length_replicate,Nat.sub_self,List.drop_eq_getElem_cons (by omega),List.set_cons_zero]
  have hck:∀ (h:k < m),0<=(toC m j)[k]'(by omega)/\(toC m j)[k]'(by omega)<=2:=fun h=>zbR m j _ (List.getElem_mem _);have hwk:∀ (h:k < m),IntKind.i64.wrap ((toC m j)[k]'(by omega)+1)=(toC m j)[k]'(by omega)+1:=fun h=>by have:=hck h;exact wrap64 (by omega) (by omega)
  have hi1:∀ (h:k < m),(toC m j)[k]'(by omega) < 2->Hide (j+1 < 3 ^ m/\toC m (j+1)=List.replicate k 0++((toC m j)[k]'(by omega)+1)::(toC m j).drop (k+1)):=fun h h2=>⟨by
   have e1:=hinc.h;rw [List.drop_eq_getElem_cons (by omega),incC,if_pos h2,zdk m j hj] at e1
   split at e1
   ·rename_i h3;simp at e1;exact ⟨h3,e1⟩
   ·simp at e1⟩
  have hi2:∀ (h:k < m),¬ (toC m j)[k]'(by omega) < 2->Hide (incC (toC m j)=(incC ((toC m j).drop (k+1))).map (List.replicate (k+1) 0 ++ ·)):=fun h h2=>⟨by
   have e1:=hinc.h;rw [List.drop_eq_getElem_cons (by omega),incC,if_neg h2] at e1;rw [e1,List.replicate_succ',Option.map_map];simp [Function.comp_def]⟩
  have hi3:k=m->Hide (¬ j+1 < 3 ^ m):=fun h=>⟨fun h3=>by
   have e1:=hinc.h;rw [List.drop_eq_nil_of_le (by omega),zdk m j hj,if_pos h3] at e1;simp [incC] at e1⟩
  have hlen9:Hide _:=⟨hcl⟩
  obtain ⟨X,hX⟩:∃ X,X=List.replicate k 0++(toC m j).drop k:=⟨_,rfl⟩
  have hXk':Hide (∀ (h:k < m) h',X[k]'h'=(toC m j)[k]'(by omega)):=⟨by subst hX;exact hXk⟩
  rw [<- hX] at hgc2 hXl hXs;have hX':Hide _:=⟨hX⟩
  have hXs':Hide _:=⟨hXs⟩
  clear hXk hX hXs hinc;have hidc2:=zJ hgc2;have hid2:=zay (H:=H2) (i:=id0) (by rw [hgl2];simp);have hJs:∀ o,Hide (J H.nx (j+1) (H2.set H.nx o)):=fun o=>⟨hstab _ _ _ _ hJ2 (by simp) (fun i _ hi _=>zt hi)⟩
  have hlw:∀ (h:k < m) h',IntKind.i64.wrap (X[k]'h'+1)=X[k]'h'+1:=fun h h'=>by rw [hXk'.h h];exact hwk h
  have hs1':¬ (id0=H.nx):=by omega
  have hJ2':Hide _:=⟨hJ2⟩
  clear hwk hJ2;(repeat' first|simp [*,ze]|(apply zb<;>intro _ h<;>try simp [-Nat.le_zero_eq] at h))
  ·have hkm:k < m:=by assumption
   have h2:X[k]'(by omega) < 2:=by assumption
   rw [hXk'.h hkm] at h2;obtain ⟨h3,h4⟩:=(hi1 hkm h2).h
   refine ⟨j+1,by omega,h3,?_,(hJs _).h⟩
   rw [h4,hXs'.h hkm,hXk'.h hkm]
  ·have hkm:k < m:=by assumption
   have h2:¬ X[k]'(by omega) < 2:=by omega
   rw [hXk'.h hkm] at h2
   refine ⟨k+1,by omega,by simp,by omega,?_,(hJs _).h,hi2 hkm h2⟩
   rw [hXs'.h hkm,List.replicate_succ'];simp
  ·have hkm:k=m:=by omega
   have h3:=(hi3 hkm).h;have h4:3 ^ m=j+1:=by omega
   rw [h4];exact ⟨_,hJ2'.h⟩
theorem zia {n:Nat} {l:Life} (hr:Right l) {env:Env} {H:Heap} {f:Opnd} {params:List Nat} {assign body:VCode} {Q:VExit->Env->Heap->Prop} {u} (hf:f.eval env=.pure (.func 98 [.ptr false l.cells 0])) (hp:params.length=2)
  (J:Nat->Nat->Heap->Prop)
  (hstab:∀ idc j H1 H2,J idc j H1->H1.nx<=H2.nx->(∀ i,i < H1.nx->i≠idc->i≠H.nx->H2.get i=H1.get i)->J idc j H2)
  (h0:∀ idc,H.nx < idc->J idc 0 H)
  (hskip:∀ idc j H1,j < 3 ^ (l.sights.xs.length - 1)->zao l (toC (l.sights.xs.length - 1) j)=none->J idc j H1->J idc (j+1) H1)
  (hbody:∀ idc j t H1,j < 3 ^ (l.sights.xs.length - 1)->zao l (toC (l.sights.xs.length - 1) j)=some t->H.nx < idc->idc < H1.nx ->
   wp (zg G (n+7)) assign ((params.zip [.row idc 1 0 (l.sights.xs.length - 1),.pure (.agg t.told.cells)]).foldl (fun e x=>upd e x.1 x.2) env) H1 (fun x env2 H2=>x=.normal/\H1.nx<=H2.nx/\(∀ i,i < H1.nx->H2.get i=H1.get i) /\
    ∀ Hb,Hb.nx=H2.nx->(∀ i,i≠H.nx->Hb.get i=H2.get i)->J idc j Hb->Hb.get idc=.cells true (zn intF (toC (l.sights.xs.length - 1) j))->H.nx < Hb.nx ->
     wp (zg G (n+7)) body env2 Hb (fun x _ H3=>x=.normal/\H3.get H.nx=Hb.get H.nx/\H3.get idc=.cells true (zn intF (toC (l.sights.xs.length - 1) j))/\Hb.nx<=H3.nx/\J idc (j+1) H3) .mk) .mk)
  (hend:∀ idc H',J idc (3 ^ (l.sights.xs.length - 1)) H'->Q .normal env H') :
  wp (zg G (n+9)) (.rangeFunc f params assign body) env H Q u:=by
 refine zhj hf ?_
 obtain ⟨v,H2,h1,h2,idc,h3⟩:=zlb n l hr (H.alloc (.loop { env,params,assign,body,state:=.ready,pending:=.normal })) H.nx { env,params,assign,body,state:=.ready,pending:=.normal } rfl rfl hp (by simp) (zaY _) J hstab
  (fun idc hi=>hstab idc 0 H _ (h0 idc (by simp at hi;omega)) (by simp) (fun i hi _ _=>zA hi)) hskip
  (fun idc j t H1 hj ht hJ hi hgc hgl=>by
   have hlt:=zJ hgc;have hi':H.nx < idc:=by simp at hi;omega
   refine (hbody idc j t H1 hj ht hi' hlt).mono ?_
   rintro x env2 H2 ⟨rfl,hx2,hs2,hw⟩;have hid1:=zay (H:=H1) (i:=H.nx) (by rw [hgl];simp);have hgl2:H2.get H.nx=_:=(hs2 _ hid1).trans hgl
   refine ⟨rfl,hgl2,?_⟩
   have hid:=zay (H:=H2) (i:=H.nx) (by rw [hgl2];simp)
   refine (hw (H2.set H.nx (.loop { env,params,assign,body,state:=.busy,pending:=.normal })) rfl (fun i hi=>zt hi) (hstab _ _ _ _ hJ (by simpa using hx2) (fun i hi _ hi2=>by rw [zt hi2];exact hs2 i hi)) (by rw [zt (by omega),hs2 _ hlt];exact hgc) (by simpa using hid)).mono ?_
   rintro x env3 H3 ⟨rfl,g1,g2,g3,g4⟩;exact ⟨rfl,by rw [g1,z8 hid],g2,by simp at g3;omega,g4⟩)
 refine ⟨v,H2,h1,h2,hend idc _ (hstab _ _ _ _ h3 (by simp) (fun i _ _ hi=>zt hi))⟩
theorem zfK {n:Nat} {l:Life} (hr:Right l) {env:Env} {H:Heap} {f:Opnd} {params:List Nat} {assign body:VCode} {Q:VExit->Env->Heap->Prop} {u} (hf:f.eval env=.pure (.func 98 [.ptr false l.cells 0])) (hp:params.length=2)
  (J:Nat->Nat->Heap->Prop)
  (hstab:∀ idc j H1 H2,J idc j H1->H1.nx<=H2.nx->(∀ i,i < H1.nx->i≠idc->i≠H.nx->H2.get i=H1.get i)->J idc j H2)
  (h0:∀ idc,H.nx < idc->J idc 0 H)
  (hskip:∀ idc j H1,j < 3 ^ (l.sights.xs.length - 1)->zao l (toC (l.sights.xs.length - 1) j)=none->J idc j H1->J idc (j+1) H1)
  (hbody:∀ idc j t H1,j < 3 ^ (l.sights.xs.length - 1)->zao l (toC (l.sights.xs.length - 1) j)=some t->H.nx < idc->idc < H1.nx ->
   wp (zg G (n+7)) assign ((params.zip [.row idc 1 0 (l.sights.xs.length - 1),.pure (.agg t.told.cells)]).foldl (fun e x=>upd e x.1 x.2) env) H1 (fun x env2 H2=>x=.normal/\H2=H1 /\
    ∀ Hb,J idc j Hb->Hb.get idc=.cells true (zn intF (toC (l.sights.xs.length - 1) j))->H.nx < Hb.nx ->
     wp (zg G (n+7)) body env2 Hb (fun x _ H3=>x=.normal/\H3.get H.nx=Hb.get H.nx/\H3.get idc=.cells true (zn intF (toC (l.sights.xs.length - 1) j))/\Hb.nx<=H3.nx/\J idc (j+1) H3) .mk) .mk)
  (hend:∀ idc H',J idc (3 ^ (l.sights.xs.length - 1)) H'->Q .normal env H') :
  wp (zg G (n+9)) (.rangeFunc f params assign body) env H Q u :=
 zia hr hf hp J hstab h0 hskip (fun idc j t H1 hj ht hi hlt=>(hbody idc j t H1 hj ht hi hlt).mono fun x env2 H2 h=>by
  obtain ⟨h1,rfl,h3⟩:=h;exact ⟨h1,Nat.le_refl _,fun _ _=>rfl,fun Hb _ _ hJ hg hn=>h3 Hb hJ hg hn⟩) hend
def chg (c:List Int):Nat:=c.countP (fun k=>!decide (k=0))
theorem zkA {c:List Int} {i:Nat} (h:i < c.length):chg (c.take (i+1))=chg (c.take i)+if c[i]=0 then 0 else 1:=by
 rw [<- zaN h,chg,List.countP_append]
 by_cases h0:c[i]=0<;>simp [chg,h0]
theorem ziV (c:List Int):chg c<=c.length:=List.countP_le_length
theorem e55 (n:Nat) (c:Sl Int) (hc:c.xs.length < 1000):zK G (n+1) 55 [c.pv intF 1]=some (.int .i64 (chg c.xs)):=by
 refine zy (zx _) rfl g55 rfl ?_
 (repeat' first|simp [*,ze,c55]|(apply zb<;>intro _ h<;>try simp [-Nat.le_zero_eq] at h))
 refine zU [(3,3),(5,5),(8,16)] (fun (i:Nat) env H=>env 8=.pure (.int .i64 i)/\env 3=.pure (.int .i64 (chg (c.xs.take i)))/\i<=c.xs.length) (fun i=>c.xs.length - i) 0 ?_ ?_ ?_ ?_
 ·decide
 ·simp [chg]
 ·simp only [zN];omega
 rintro i env H ⟨h8,h3,hi⟩;have hfit:i < 9223372036854775807:=by omega
 have hcl:=ziV (c.xs.take i);rw [List.length_take] at hcl;have hfit2:chg (c.xs.take i) < 9223372036854775807:=by omega
 have hs:∀ h:i < c.xs.length,Hide (chg (c.xs.take (i+1))=chg (c.xs.take i)+if c.xs[i]=0 then 0 else 1):=fun h=>⟨zkA h⟩
 (repeat' first|simp [*,ze]|(apply zb<;>intro _ h<;>try simp [-Nat.le_zero_eq] at h))
 ·exact ⟨i+1,by omega,by simp,by rw [(hs (by assumption)).h,if_pos (by assumption)];simp,by omega⟩
 ·exact ⟨i+1,by omega,by simp,by rw [(hs (by assumption)).h,if_neg (by assumption)];simp,by omega⟩
 ·rw [List.take_of_length_le (by omega)]
def zjz (out:List Int) (i:Nat):List Int:=out.set i (out[i]! + 1)
def byTo (p:List Int->Bool) (m:Nat):Nat->List Int
 | 0=>List.replicate (m+1) 0
 | j+1=>if p (toC m j)=true then zjz (byTo p m j) (chg (toC m j)) else byTo p m j
theorem zbA (p:List Int->Bool) (m:Nat):∀ j,(byTo p m j).length=m+1
 | 0=>by simp [byTo]
 | j+1=>by
  rw [byTo]
  split
  ·rw [zjz,List.length_set,zbA p m j]
  ·exact zbA p m j
theorem zjm (p:List Int->Bool) (m:Nat):∀ j,∀ a∈byTo p m j,0<=a/\a<=j
 | 0=>by
  intro a ha;simp [byTo] at ha;omega
 | j+1=>by
  have ih:=zjm p m j;intro a ha;rw [byTo] at ha
  split at ha
  ·rcases List.mem_or_eq_of_mem_set ha with ha|rfl
   ·have:=ih a ha;omega
   ·have hl:=zbA p m j;have hc:=ziV (toC m j);rw [zbq] at hc;have:=ih ((byTo p m j)[chg (toC m j)]!) (by rw [getElem!_pos _ _ (by omega)];exact List.getElem_mem _);omega
  ·have:=ih a ha;omega
theorem zj6 {m:Nat} (h:m<=8):3 ^ m<=6561:=by
 have:3 ^ m<=3 ^ 8:=Nat.pow_le_pow_right (by decide) h;exact this
def fitP (l:Life) (c:List Int):Bool:=(zao l c).isSome
theorem sh54:G.shared 54=false:=by decide
theorem e54 (n:Nat) (l:Life):zK G (n+1) 54 [.agg l.cells]=some (.func 98 [.ptr false l.cells 0]):=by
 refine zy (zx _) rfl g54 rfl ?_
 (repeat' first|simp [*,ze,c54]|(apply zb<;>intro _ h<;>try simp [-Nat.le_zero_eq] at h))
@[simp] theorem d54 (n:Nat) (H:Heap) (l_habit_step:Int) (l_habit_place:Int) (l_habit_sink:Int) (l_sights:Sl Sight) (l_notes:Sl Note):zu (zg G (n+1)) H (.pure (.func 54 [])) [.pure (.agg [.int .i64 l_habit_step,.int .i64 l_habit_place,.int .i64 l_habit_sink,(l_sights).pv Sight.cells 9,(l_notes).pv Note.cells 4])]=some (.val (.pure ((fun (l:Life)=>.func 98 [.ptr false l.cells 0]) (⟨⟨l_habit_step,l_habit_place,l_habit_sink⟩,l_sights,l_notes⟩:Life)))) :=
 zi (ps:=[_]) (caps:=[]) sh54 (e54 n (⟨⟨l_habit_step,l_habit_place,l_habit_sink⟩,l_sights,l_notes⟩:Life))
theorem e22 (n:Nat) (l:Life) (hs:zb8 l):zK G (n+10) 22 [.agg l.cells]=some ((if zai l=0 then .tup [(Sl.mk false (byTo (fitP l) (l.sights.xs.length - 1) (3 ^ (l.sights.xs.length - 1)))).pv intF 1,.int .i64 0] else .tup [.nils,.int .i64 (zai l)])):=by
 refine zy (zx _) rfl g22 rfl ?_
 have hcc:∀ H,zu (zg G (n+9)) H (.pure (.func 29 [])) [.pure (.agg l.cells)]=some (.val (.pure (.int .i64 (zai l)))):=fun H=>d29 (n+4) H l.habit.step l.habit.place l.habit.sink l.sights l.notes hs;simp only [Life.cells] at hcc
 by_cases hck:zai l=0
 ·have hr:=(zdn l).1 hck;have h1:=hr.one;have h9:=hr.nine;have hm1:l.sights.xs.length*8<=zq:=by unfold zq;omega
  have hm2:l.sights.xs.length<=zq:=by unfold zq;omega
  (repeat' first|simp [*,ze,c22]|(apply zb<;>intro _ h<;>try simp [-Nat.le_zero_eq] at h))
  refine zfK (n:=n) (l:=l) hr (by simp) rfl (fun idc j H1=>2 < idc/\H1.get 0=.cells true (zn intF (byTo (fitP l) (l.sights.xs.length - 1) j))/\H1.get 1=.cells true [.row 0 1 0 l.sights.xs.length]) ?_ ?_ ?_ ?_ ?_
  ·rintro idc j H1 H2 ⟨hi,g0,g1⟩ hnx hsame;have:=zJ g1
   refine ⟨hi,by rw [hsame 0 (by omega) (by omega) (by simp)];exact g0,by rw [hsame 1 (by omega) (by omega) (by simp)];exact g1⟩
  ·intro idc hi;have e:l.sights.xs.length - 1+1=l.sights.xs.length:=by omega
   refine ⟨by simpa using hi,?_,by simp⟩
   simp [byTo,zbB,e]
  ·rintro idc j H1 hj ht ⟨hi,g0,g1⟩
   refine ⟨hi,?_,g1⟩
   rw [byTo,if_neg (by simp [fitP,ht])];exact g0
  ·intro idc j t H1 hj ht hi hlt;(repeat' first|simp [*,ze]|(apply zb<;>intro _ h<;>try simp [-Nat.le_zero_eq] at h));rintro Hb hi2 g0 g1 gc hnx;have hcl:=zbq (l.sights.xs.length - 1) j;obtain ⟨s,hs1,hs2⟩:=zmx (f:=intF) (sz:=1) (n:=10) (fun _=>rfl) gc hcl;have hch:zK G (n+7) 55 [s.pv intF 1]=some (.int .i64 (chg (toC (l.sights.xs.length - 1) j))):=by
    have:=e55 (n+6) s (by rw [hs1,hcl];omega);rw [hs1] at this;exact this
   have hlen:=zbA (fitP l) (l.sights.xs.length - 1) j;have hle:=ziV (toC (l.sights.xs.length - 1) j);rw [hcl] at hle;have hj3:=zj6 (m:=l.sights.xs.length - 1) (by omega);have hbd:=zjm (fitP l) (l.sights.xs.length - 1) j;have hst:Hide (byTo (fitP l) (l.sights.xs.length - 1) (j+1)=zjz (byTo (fitP l) (l.sights.xs.length - 1) j) (chg (toC (l.sights.xs.length - 1) j))):=⟨by rw [byTo,if_pos (by simp [fitP,ht])]⟩
   have hk1:chg (toC (l.sights.xs.length - 1) j) < l.sights.xs.length:=by omega
   generalize hB:byTo (fitP l) (l.sights.xs.length - 1) j=B at *;generalize hK:chg (toC (l.sights.xs.length - 1) j)=K at *;have hk2:K < B.length:=by omega
   have hbk:=hbd B[K] (List.getElem_mem _);have hwr:IntKind.i64.wrap (B[K]+1)=B[K]+1:=wrap64 (by omega) (by omega);have hn0:0 < Hb.nx:=by omega
   have hi0:¬ (idc=0):=by omega
   clear hcc hlen hbd hB hK;(repeat' first|simp [*,ze]|(apply zb<;>intro _ h<;>try simp [-Nat.le_zero_eq] at h))
   refine zjK (caps:=[]) (by decide) (.cons hs2 .nil) hch rfl ?_
   (repeat' first|simp [*,ze]|(apply zb<;>intro _ h<;>try simp [-Nat.le_zero_eq] at h));rw [hst.h,zjz,getElem!_pos B K hk2]
  ·rintro idc H' ⟨hi,g0,g1⟩;have hlen:=zbA (fitP l) (l.sights.xs.length - 1) (3 ^ (l.sights.xs.length - 1));have e:l.sights.xs.length - 1+1=l.sights.xs.length:=by omega
   rw [e] at hlen;obtain ⟨ids,hids⟩:=zgQ (f:=intF) (sz:=1) (n:=9) (fun _=>rfl) g0 hlen;(repeat' first|simp [*,ze]|(apply zb<;>intro _ h<;>try simp [-Nat.le_zero_eq] at h))
 ·(repeat' first|simp [*,ze,c22]|(apply zb<;>intro _ h<;>try simp [-Nat.le_zero_eq] at h))
def zeq (k:Int):Int:=if k=2 then 4 else if k=1 then 2 else 1
def za4 (a k:Int):Int:=if (a.tdiv (zeq k)).tmod 2=0 then a+zeq k else a
def zX (p:List Int->Bool) (m:Nat):Nat->List Int×Bool
 | 0=>(List.replicate m 0,false)
 | j+1=>if p (toC m j)=true then ((zX p m j).1.zipWith za4 (toC m j),true) else zX p m j
theorem zbi (p:List Int->Bool) (m:Nat):∀ j,(zX p m j).1.length=m
 | 0=>by simp [zX]
 | j+1=>by
  rw [zX]
  split
  ·simp [zbi p m j,zbq]
  ·exact zbi p m j
theorem zgu {a k:Int} (ha:0<=a/\a<=7) (hk:0<=k/\k<=2):(0<=za4 a k/\za4 a k<=7)/\vbin .shl .num (.pure (.int .i64 1)) (.pure (.int .i64 k))=some (.pure (.int .i64 (zeq k)))/\vbin .or .num (.pure (.int .i64 a)) (.pure (.int .i64 (zeq k)))=some (.pure (.int .i64 (za4 a k))) /\
  IntKind.i64.wrap (a.tdiv (zeq k))=a.tdiv (zeq k)/\IntKind.i64.wrap (a+zeq k)=a+zeq k:=by
 have h1:a=0\/a=1\/a=2\/a=3\/a=4\/a=5\/a=6\/a=7:=by omega
 have h2:k=0\/k=1\/k=2:=by omega
 rcases h1 with rfl|rfl|rfl|rfl|rfl|rfl|rfl|rfl<;>rcases h2 with rfl|rfl|rfl<;>exact ⟨⟨by decide,by decide⟩,rfl,rfl,rfl,rfl⟩
theorem zfM (p:List Int->Bool) (m:Nat):∀ j,∀ a∈(zX p m j).1,0<=a/\a<=7
 | 0=>by
  intro a ha;simp [zX] at ha;omega
 | j+1=>by
  have ih:=zfM p m j;intro a ha;rw [zX] at ha
  split at ha
  ·obtain ⟨i,hi,rfl⟩:=List.getElem_of_mem ha;simp at hi ⊢;exact (zgu (ih _ (List.getElem_mem _)) (zbR m j _ (List.getElem_mem (by omega)))).1
  ·exact ih a ha
def mixT (Z B:List Int) (i:Nat):List Int:=Z.take i++B.drop i
theorem zhR {Z B:List Int} {i:Nat} (h:Z.length=B.length) (hi:i<=B.length):(mixT Z B i).length=B.length:=by simp [mixT];omega
theorem zkP {Z B:List Int} {i:Nat} (h:Z.length=B.length) (hi:i < B.length) (h':i < (mixT Z B i).length):(mixT Z B i)[i]=B[i]:=by
 simp only [mixT];rw [List.getElem_append_right (by simp;omega)];simp [Nat.min_eq_left (show i<=Z.length by omega)]
theorem zkM {Z B:List Int} {i:Nat} (h:Z.length=B.length) (hi:i < B.length):(mixT Z B i).set i (Z[i]'(by omega))=mixT Z B (i+1):=by
 have hl:(Z.take i).length=i:=by simp;omega
 simp only [mixT];rw [List.set_append_right _ _ (by omega),hl,Nat.sub_self,List.drop_eq_getElem_cons hi,List.set_cons_zero,<- zaN (by omega),List.append_assoc];rfl
theorem zlm {Z B:List Int} {i:Nat} (h:Z.length=B.length) (hi:i=B.length):mixT Z B i=Z:=by
 simp only [mixT];rw [List.take_of_length_le (by omega),List.drop_eq_nil_of_le (by omega),List.append_nil]
theorem e21 (n:Nat) (l:Life) (hs:zb8 l):zK G (n+10) 21 [.agg l.cells]=some ((if zai l=0 then (if (zX (fitP l) (l.sights.xs.length - 1) (3 ^ (l.sights.xs.length - 1))).2=true then .tup [(Sl.mk false (zX (fitP l) (l.sights.xs.length - 1) (3 ^ (l.sights.xs.length - 1))).1).pv intF 1,.int .i64 0] else .tup [.nils,.int .i64 9]) else .tup [.nils,.int .i64 (zai l)])):=by
 refine zy (zx _) rfl g21 rfl ?_
 have hcc:∀ H,zu (zg G (n+9)) H (.pure (.func 29 [])) [.pure (.agg l.cells)]=some (.val (.pure (.int .i64 (zai l)))):=fun H=>d29 (n+4) H l.habit.step l.habit.place l.habit.sink l.sights l.notes hs;simp only [Life.cells] at hcc
 by_cases hck:zai l=0
 ·have hr:=(zdn l).1 hck;have h1:=hr.one;have h9:=hr.nine;have hw:IntKind.i64.wrap ((l.sights.xs.length:Int) - 1)=((l.sights.xs.length - 1:Nat):Int):=zeh (by omega) (by omega);obtain ⟨m,hm0⟩:∃ m,m=l.sights.xs.length - 1:=⟨_,rfl⟩
  rw [<- hm0] at hw ⊢;have hm1:m*8<=zq:=by unfold zq;omega
  have hm2:m<=zq:=by unfold zq;omega
  have hm8:m<=8:=by omega
  have hm:Hide _:=⟨hm0⟩
  clear hm0;(repeat' first|simp [*,ze,c21]|(apply zb<;>intro _ h<;>try simp [-Nat.le_zero_eq] at h))
  refine zfK (n:=n) (l:=l) hr (by simp) rfl (fun idc j H1=>3 < idc/\H1.get 0=.cells true (zn intF (zX (fitP l) m j).1)/\H1.get 1=.cells true [.row 0 1 0 m]/\H1.get 2=.cells true [.pure (.bool (zX (fitP l) m j).2)]) ?_ ?_ ?_ ?_ ?_
  ·rintro idc j H1 H2 ⟨hi,g0,g1,g2⟩ hnx hsame;have:=zJ g2;exact ⟨hi,by rw [hsame 0 (by omega) (by omega) (by simp)];exact g0,by rw [hsame 1 (by omega) (by omega) (by simp)];exact g1,by rw [hsame 2 (by omega) (by omega) (by simp)];exact g2⟩
  ·intro idc hi
   refine ⟨by simpa using hi,?_,by simp,by simp [zX]⟩
   simp [zX,zbB]
  ·rw [<- hm.h];rintro idc j H1 hj ht ⟨hi,g0,g1,g2⟩;have e:zX (fitP l) m (j+1)=zX (fitP l) m j:=by rw [zX,if_neg (by simp [fitP,ht])]
   rw [e];exact ⟨hi,g0,g1,g2⟩
  ·rw [<- hm.h];intro idc j t H1 hj ht hi hlt;(repeat' first|simp [*,ze]|(apply zb<;>intro _ h<;>try simp [-Nat.le_zero_eq] at h));rintro Hb hi2 g0 g1 g2 gc hnx;have hcl:=zbq m j;have e:Hide (zX (fitP l) m (j+1)=((zX (fitP l) m j).1.zipWith za4 (toC m j),true)):=⟨by rw [zX,if_pos (by simp [fitP,ht])]⟩
   have hBl:=zbi (fitP l) m j;have hBb:=zfM (fitP l) m j;generalize (zX (fitP l) m j).2=S0 at *;generalize (zX (fitP l) m j).1=B at *;have hck:=zbR m j;generalize toC m j=C at *;have hZl:(B.zipWith za4 C).length=B.length:=by simp;omega
   have hnx2:2 < Hb.nx:=by omega
   (repeat' first|simp [*,ze]|(apply zb<;>intro _ h<;>try simp [-Nat.le_zero_eq] at h))
   refine zU [(8,9),(26,39)] (fun (i:Nat) env H3=>env 26=.pure (.int .i64 i)/\i<=m/\H3.nx=Hb.nx/\H3.get 0=.cells true (zn intF (mixT (B.zipWith za4 C) B i))/\H3.get 1=.cells true [.row 0 1 0 m]/\H3.get 2=.cells true [.pure (.bool true)]/\H3.get idc=.cells true (zn intF C)/\H3.get 3=Hb.get 3) (fun i=>m - i) 0 ?_ ?_ ?_ ?_
   ·decide
   ·refine ⟨by simp,by omega,by simp,by rw [zt (by decide)];simpa [mixT] using g0,by rw [zt (by decide)];exact g1,by rw [z8 hnx2],by rw [zt (by omega)];exact gc,by rw [zt (by decide)]⟩
   ·simp only [zN];omega
   rintro i env H3 ⟨h26,hi,gn,k0,k1,k2,kc,k3⟩;have hfit:i < 9223372036854775807:=by omega
   have hXl:=zhR (Z:=B.zipWith za4 C) (B:=B) (i:=i) hZl (by omega);rw [hBl] at hXl;have n0:=zJ k0;have hi0:¬ (idc=0):=by omega
   have hi3:¬ (3=0):=by omega
   by_cases him:i < m
   ·have hXg:=zkP (Z:=B.zipWith za4 C) (B:=B) (i:=i) hZl (by omega) (by omega);have hXs:=zkM (Z:=B.zipWith za4 C) (B:=B) (i:=i) hZl (by omega);have hZi:(B.zipWith za4 C)[i]'(by omega)=za4 (B[i]'(by omega)) (C[i]'(by omega)):=by simp
    rw [hZi] at hXs;obtain ⟨b1,b2,b3,b4,b5⟩:=zgu (hBb _ (List.getElem_mem (l:=B) (n:=i) (by omega))) (hck _ (List.getElem_mem (l:=C) (n:=i) (by omega)));obtain ⟨X,k0,hXl,hXg,hXs⟩:∃ X:List Int,H3.get 0=.cells true (zn intF X)/\X.length=m/\(∀ h,X[i]'h=B[i]'(by omega))/\X.set i (za4 (B[i]'(by omega)) (C[i]'(by omega)))=mixT (B.zipWith za4 C) B (i+1):=⟨_,k0,hXl,fun _=>hXg,hXs⟩
    have hXs':Hide _:=⟨hXs⟩
    have hXg':=hXg (by omega);clear hXs hXg hZi b4 b5;have hcl':C.length=m:=hcl;(repeat' first|simp [*,ze]|(apply zb<;>intro _ h<;>try simp [-Nat.le_zero_eq] at h));exact ⟨i+1,by omega,by simp,by omega,by first|rw [hXs'.h]|rw [z8 n0]⟩
   ·have hie:i=m:=by omega
    have hXe:=zlm (Z:=B.zipWith za4 C) (B:=B) (i:=i) hZl (by omega);rw [hXe] at k0;have e1:(zX (fitP l) m (j+1)).1=B.zipWith za4 C:=by rw [e.h]
    have e2:(zX (fitP l) m (j+1)).2=true:=by rw [e.h]
    (repeat' first|simp [*,ze]|(apply zb<;>intro _ h<;>try simp [-Nat.le_zero_eq] at h))
  ·rw [<- hm.h];rintro idc H' ⟨hi,g0,g1,g2⟩;have hlen:=zbi (fitP l) m (3 ^ m);obtain ⟨ids,hids⟩:=zgQ (f:=intF) (sz:=1) (n:=9) (fun _=>rfl) g0 hlen;(repeat' first|simp [*,ze]|(apply zb<;>intro _ h<;>try simp [-Nat.le_zero_eq] at h))
 ·(repeat' first|simp [*,ze,c21]|(apply zb<;>intro _ h<;>try simp [-Nat.le_zero_eq] at h))
theorem zl7 {l:Life} (hr:Right l) (c:List Int):Gaps (fun _=>True) (onX l c) (onX l c):=by
 have hd:=fun (k:Nat)=>zc8 (k:=c[k]!) hr.habit
 refine ⟨?_,?_,?_,?_,fun _ _ _ _=>trivial⟩
 ·intro k s t h;unfold sub onX onD at *;simp only;omega
 ·intro k s t h;unfold sub onX onD at *;simp only;omega
 ·intro k f t h;have:=hd k;unfold sub onX onD zaA at *;simp only at *;omega
 ·intro k f t _ hf ht h;have:=hd k;unfold full sub onX onD zaA at *;simp only at *;omega
theorem zoa {l:Life} (hr:Right l) (c:List Int):Gaps (fun s=>0<=s.lo/\s.hi<=100) (onH l c) (zdd l c):=by
 have hy:∀ k,k+1 < l.sights.xs.length->0<=l.habit.sink*yrS l.sights.xs k:=fun k hk=>by
  have h1:=hr.yr hk;have h2:yrS l.sights.xs k=l.sights.xs[k+1].year - l.sights.xs[k].year:=by rw [yrS,getElem!_pos _ k (by omega),getElem!_pos _ (k+1) hk]
  rw [h2];exact (zdo hr.habit h1).1
 refine ⟨?_,?_,?_,?_,?_⟩
 ·intro k s t h;unfold onH
  by_cases hk:k+1 < l.sights.xs.length
  ·rw [if_pos hk,if_pos hk];unfold upH sub at *
   split<;>(simp only;omega)
  ·rw [if_neg hk,if_neg hk];exact h
 ·intro k s t h;unfold zdd
  by_cases hk:k+1 < l.sights.xs.length
  ·rw [if_pos hk,if_pos hk];unfold zcE sub at *
   split<;>(simp only;omega)
  ·rw [if_neg hk,if_neg hk];exact h
 ·intro k f t h;unfold onH zdd at *
  by_cases hk:k+1 < l.sights.xs.length
  ·rw [if_pos hk] at *;unfold upH zcE sub zaA at *;have:=hy k hk
   split<;>rename_i h0<;>simp only [h0,if_true,if_false] at h ⊢<;>omega
  ·rw [if_neg hk] at *;rw [if_neg hk];exact zkZ h (zdO _)
 ·intro k f t hR hf ht h;unfold onH zdd at *
  by_cases hk:k+1 < l.sights.xs.length
  ·rw [if_pos hk] at *;unfold upH zcE sub zaA full at *;have:=hy k hk
   split<;>rename_i h0<;>simp only [h0,if_true,if_false] at h ⊢<;>omega
  ·rw [if_neg hk] at *;unfold sub full zaA at *;simp only;omega
 ·intro s t h1 h2;unfold sub at h2;omega
section
variable {l:Life} {c:List Int}
end
def fewS (l:Life):Bool:=if 9 < l.sights.xs.length\/20 < l.notes.xs.length then true else allL (fun s=>decide (s.letters.length<=20)) l.sights.xs&&decide (l.sights.xs.length<=6)
theorem zj5 {l:Life} (h:fewS l=true):zb8 l:=by
 unfold fewS at h;intro h1 h2 s hs;rw [if_neg (by omega)] at h;simp only [Bool.and_eq_true] at h
 simpa using allL_iff.1 h.1 s hs
theorem sh5:G.shared 5=false:=by decide
theorem e5 (n:Nat) (l:Life):zK G (n+1) 5 [.agg l.cells]=some (.bool (fewS l)):=by
 refine zy (zx _) rfl g5 rfl ?_
 (repeat' first|simp [*,ze,c5]|(apply zb<;>intro _ h<;>try simp [-Nat.le_zero_eq] at h))
 all_goals try (rw [fewS,if_pos (by omega)];done)
 have hP:Hide (fewS l=(allL (fun s=>decide (s.letters.length<=20)) l.sights.xs&&decide (l.sights.xs.length<=6))):=⟨by rw [fewS,if_neg (by omega)]⟩
 generalize fewS l=P at *
 refine zU [(2,3),(14,28)] (fun (i:Nat) env H=>env 3=.pure (.int .i64 i)/\i<=l.sights.xs.length/\Hide (allL (fun s=>decide (s.letters.length<=20)) l.sights.xs=allL (fun s=>decide (s.letters.length<=20)) (l.sights.xs.drop i))) (fun i=>l.sights.xs.length - i) 0 ?_ ?_ ?_ ?_
 ·decide
 ·simp
 ·simp only [zN];omega
 rintro i env H ⟨h3,hi,hn⟩;have hfit:i < 9223372036854775807:=by omega
 (repeat' first|simp [*,ze]|(apply zb<;>intro _ h<;>try simp [-Nat.le_zero_eq] at h))
 ·have hlt:i < l.sights.xs.length:=by assumption
  have hf:decide (l.sights.xs[i].letters.length<=20)=false:=by simp;omega
  rw [hP.h,hn.h,zbU hlt,hf];rfl
 ·have hlt:i < l.sights.xs.length:=by assumption
  have hf:decide (l.sights.xs[i].letters.length<=20)=true:=by simp;omega
  exact ⟨i+1,by omega,by simp,by omega,⟨by rw [hn.h,zbU hlt,hf];rfl⟩⟩
 rw [hP.h,hn.h,zfD (by omega)];simp;omega
@[simp] theorem d5 (n:Nat) (H:Heap) (l_habit_step:Int) (l_habit_place:Int) (l_habit_sink:Int) (l_sights:Sl Sight) (l_notes:Sl Note):zu (zg G (n+1)) H (.pure (.func 5 [])) [.pure (.agg [.int .i64 l_habit_step,.int .i64 l_habit_place,.int .i64 l_habit_sink,(l_sights).pv Sight.cells 9,(l_notes).pv Note.cells 4])]=some (.val (.pure ((fun (l:Life)=>.bool (fewS l)) (⟨⟨l_habit_step,l_habit_place,l_habit_sink⟩,l_sights,l_notes⟩:Life)))) :=
 zi (ps:=[_]) (caps:=[]) sh5 (e5 n (⟨⟨l_habit_step,l_habit_place,l_habit_sink⟩,l_sights,l_notes⟩:Life))
structure Pt where
 x:Int
 y:Int
 deriving Inhabited
@[simp] def Pt.cells (s:Pt):List PV:=[.int .i64 s.x,.int .i64 s.y]
@[simp] theorem Pt.eta (s:Pt):(⟨s.x,s.y⟩:Pt)=s:=rfl
@[simp] theorem zoS (x0:Int) (x1:Int) (P:Pt->Prop) {u}:asF Pt.cells [.pure (.int .i64 x0),.pure (.int .i64 x1)] P u↔P ⟨x0,x1⟩:=by
 constructor
 ·rintro ⟨a,h,hp⟩;simp [Pt.cells] at h;obtain ⟨rfl,rfl⟩:=h;exact hp
 ·intro h;exact ⟨_,rfl,h⟩
structure Lived where
 points:Sl Pt
 letters:Sl (List UInt8)
 heights:Sl Int
 course:Sl Int
 deriving Inhabited
@[simp] def Lived.cells (s:Lived):List PV:=[(s.points).pv Pt.cells 2,(s.letters).pv strF 1,(s.heights).pv intF 1,(s.course).pv intF 1]
@[simp] theorem Lived.eta (s:Lived):(⟨s.points,s.letters,s.heights,s.course⟩:Lived)=s:=rfl
def zdQ (b:Box) (p:Pt):Bool:=zcd b&&(decide (b.x.lo<=p.x)&&decide (p.x<=b.x.hi))&&(decide (b.y.lo<=p.y)&&decide (p.y<=b.y.hi))
theorem sh49:G.shared 49=false:=by decide
theorem e49 (n:Nat) (b:Box) (p:Pt):zK G (n+4) 49 [.agg b.cells,.agg p.cells]=some (.bool (zdQ b p)):=by
 refine zy (zx _) rfl g49 rfl ?_
 (repeat' first|simp [*,ze,c49,Box.cells,Pt.cells,zdQ]|(apply zb<;>intro _ h<;>try simp [-Nat.le_zero_eq] at h))
@[simp] theorem d49 (n:Nat) (H:Heap) (b_x_lo:Int) (b_x_hi:Int) (b_y_lo:Int) (b_y_hi:Int) (p_x:Int) (p_y:Int):zu (zg G (n+4)) H (.pure (.func 49 [])) [.pure (.agg [.int .i64 b_x_lo,.int .i64 b_x_hi,.int .i64 b_y_lo,.int .i64 b_y_hi]),.pure (.agg [.int .i64 p_x,.int .i64 p_y])]=some (.val (.pure ((fun (b:Box)=>(fun (p:Pt)=>.bool (zdQ b p)) (⟨p_x,p_y⟩:Pt)) (⟨⟨b_x_lo,b_x_hi⟩,⟨b_y_lo,b_y_hi⟩⟩:Box)))) :=
 zi (ps:=[_,_]) (caps:=[]) sh49 (e49 n (⟨⟨b_x_lo,b_x_hi⟩,⟨b_y_lo,b_y_hi⟩⟩:Box) (⟨p_x,p_y⟩:Pt))
def ptEq (v w:AV):Option Eff:=if zbE v=true/\zbE w=true/\v.cells.length=2/\w.cells.length=2 then
   match zam v.cells w.cells [0,1] with
   | some b=>some (.val (.pure (.bool (b != false))))
   | none=>none
  else none
@[simp] theorem zoG (a b c d:Int):ptEq (.pure (.agg [.int .i64 a,.int .i64 b])) (.pure (.agg [.int .i64 c,.int .i64 d]))=some (.val (.pure (.bool (decide (a=c)&&decide (b=d))))):=by
 unfold ptEq;rw [if_pos ⟨rfl,rfl,rfl,rfl⟩]
 by_cases h1:a=c<;>by_cases h2:b=d<;>simp [zam,h1,h2]
theorem zlV {cl:Callee} {env:Env} {H:Heap} (x y:Opnd):step cl env H (.aggEq false 2 [0,1] x y)=ptEq (x.eval env) (y.eval env):=rfl
def zd0 (p q:Pt) (d:Int):Bool:=(decide (-d<=p.x - q.x)&&decide (p.x - q.x<=d))&&(decide (-d<=p.y - q.y)&&decide (p.y - q.y<=d))
def okPt (p:Pt):Prop:=-1048576<=p.x/\p.x<=1048576/\-1048576<=p.y/\p.y<=1048576
theorem sh97:G.shared 97=false:=by decide
theorem e97 (n:Nat) (p q:Pt) (d:Int) (hp:okPt p) (hq:okPt q) (hd:0<=d/\d<=1000000):zK G (n+2) 97 [.agg p.cells,.agg q.cells,.int .i64 d]=some (.bool (zd0 p q d)):=by
 refine zy (zx _) rfl g97 rfl ?_
 unfold okPt at hp hq;have w1:IntKind.i64.wrap (p.x - q.x)=p.x - q.x:=wrap64 (by omega) (by omega);have w2:IntKind.i64.wrap (p.y - q.y)=p.y - q.y:=wrap64 (by omega) (by omega);have w3:IntKind.i64.wrap (0 - d)=-d:=by rw [wrap64 (by omega) (by omega)];omega
 have w4:IntKind.i64.wrap (-d)=-d:=wrap64 (by omega) (by omega);(repeat' first|simp [*,ze,c97,Pt.cells,zd0]|(apply zb<;>intro _ h<;>try simp [-Nat.le_zero_eq] at h))
@[simp] theorem d97 (n:Nat) (H:Heap) (p_x:Int) (p_y:Int) (q_x:Int) (q_y:Int) (d:Int) (hp:(fun (p:Pt)=>okPt p) (⟨p_x,p_y⟩:Pt)) (hq:(fun (q:Pt)=>okPt q) (⟨q_x,q_y⟩:Pt)) (hd:0<=d/\d<=1000000):zu (zg G (n+2)) H (.pure (.func 97 [])) [.pure (.agg [.int .i64 p_x,.int .i64 p_y]),.pure (.agg [.int .i64 q_x,.int .i64 q_y]),.pure (.int .i64 d)]=some (.val (.pure ((fun (p:Pt)=>(fun (q:Pt)=>.bool (zd0 p q d)) (⟨q_x,q_y⟩:Pt)) (⟨p_x,p_y⟩:Pt)))) :=
 zi (ps:=[_,_,_]) (caps:=[]) sh97 (e97 n (⟨p_x,p_y⟩:Pt) (⟨q_x,q_y⟩:Pt) d hp hq hd)
def gapP (h:Habit) (c:Int) (p q:Pt) (s t:List UInt8) (a b yr:Int):Bool :=
 if c=0 then (decide (p.x=q.x)&&decide (p.y=q.y))&&decide (s=t)&&(decide (0<=a - b)&&decide (a - b<=h.sink*yr)) else (decide (c=2)||decide (s=t))&&zd0 p q (farD h c)
structure Sized (l:Life) (x:Lived):Prop where
 points:x.points.xs.length=l.sights.xs.length
 letters:x.letters.xs.length=l.sights.xs.length
 heights:x.heights.xs.length=l.sights.xs.length
 course:x.course.xs.length+1=l.sights.xs.length
 kinds:∀ c∈x.course.xs,0<=c/\c<=2
def gapS (l:Life) (x:Lived) (k:Nat):Bool:=gapP l.habit x.course.xs[k-1]! x.points.xs[k-1]! x.points.xs[k]! x.letters.xs[k-1]! x.letters.xs[k]! x.heights.xs[k-1]! x.heights.xs[k]! (l.sights.xs[k]!.year - l.sights.xs[k-1]!.year)
def okR (x:Lived) (k:Nat):Prop:=okPt x.points.xs[k]! /\ 0<=x.heights.xs[k]! /\ x.heights.xs[k]! <= 100
theorem sh52:G.shared 52=false:=by decide
theorem e52 (n:Nat) (l:Life) (x:Lived) (k:Nat) (hr:Right l) (hz:Sized l x) (h0:0 < k) (hk:k < l.sights.xs.length) (ha:okR x (k - 1)) (hb:okR x k):zK G (n+3) 52 [.agg l.cells,.agg x.cells,.int .i64 k]=some (.bool (gapS l x k)):=by
 refine zy (zx _) rfl g52 rfl ?_
 have h9:=hr.nine;have hk1:k - 1 < l.sights.xs.length:=by omega
 have hfit:k < 9223372036854775807:=by omega
 have hw:IntKind.i64.wrap ((k:Int) - 1)=((k - 1:Nat):Int):=zeh h0 hfit;have a1:=zak (f:=Pt.cells) (sz:=2) (k:=.i64) (s:=x.points) (n:=k - 1) (by rw [hz.points];exact hk1);have a2:=zak (f:=Pt.cells) (sz:=2) (k:=.i64) (s:=x.points) (n:=k) (by rw [hz.points];exact hk);have a3:=zak (f:=strF) (sz:=1) (k:=.i64) (s:=x.letters) (n:=k - 1) (by rw [hz.letters];exact hk1);have a4:=zak (f:=strF) (sz:=1) (k:=.i64) (s:=x.letters) (n:=k) (by rw [hz.letters];exact hk);have a5:=zak (f:=intF) (sz:=1) (k:=.i64) (s:=x.heights) (n:=k - 1) (by rw [hz.heights];exact hk1);have a6:=zak (f:=intF) (sz:=1) (k:=.i64) (s:=x.heights) (n:=k) (by rw [hz.heights];exact hk);have a7:=zak (f:=intF) (sz:=1) (k:=.i64) (s:=x.course) (n:=k - 1) (by have:=hz.course;omega);have a8:=zak (f:=Sight.cells) (sz:=9) (k:=.i64) (s:=l.sights) (n:=k - 1) hk1;have a9:=zak (f:=Sight.cells) (sz:=9) (k:=.i64) (s:=l.sights) (n:=k) hk;have hc:=hz.kinds _ (List.getElem_mem (l:=x.course.xs) (n:=k - 1) (by have:=hz.course;omega));have hy:=hr.yr (k:=k - 1) (by omega);have hP:gapS l x k=gapP l.habit (x.course.xs[k-1]'(by have:=hz.course;omega)) (x.points.xs[k-1]'(by rw [hz.points];exact hk1)) (x.points.xs[k]'(by rw [hz.points];exact hk)) (x.letters.xs[k-1]'(by rw [hz.letters];exact hk1)) (x.letters.xs[k]'(by rw [hz.letters];exact hk)) (x.heights.xs[k-1]'(by rw [hz.heights];exact hk1)) (x.heights.xs[k]'(by rw [hz.heights];exact hk)) ((l.sights.xs[k]'hk).year - (l.sights.xs[k-1]'hk1).year):=by
  unfold gapS;rw [getElem!_pos x.course.xs (k-1) (by have:=hz.course;omega),getElem!_pos x.points.xs (k-1) (by rw [hz.points];exact hk1),getElem!_pos x.points.xs k (by rw [hz.points];exact hk),getElem!_pos x.letters.xs (k-1) (by rw [hz.letters];exact hk1),getElem!_pos x.letters.xs k (by rw [hz.letters];exact hk),getElem!_pos x.heights.xs (k-1) (by rw [hz.heights];exact hk1),getElem!_pos x.heights.xs k (by rw [hz.heights];exact hk),getElem!_pos l.sights.xs k hk,getElem!_pos l.sights.xs (k-1) hk1]
 rw [hP];unfold okR at ha hb;rw [getElem!_pos x.points.xs (k-1) (by rw [hz.points];exact hk1),getElem!_pos x.heights.xs (k-1) (by rw [hz.heights];exact hk1)] at ha;rw [getElem!_pos x.points.xs k (by rw [hz.points];exact hk),getElem!_pos x.heights.xs k (by rw [hz.heights];exact hk)] at hb;simp only [show k - 1+1=k by omega] at hy;generalize x.points.xs[k-1]'(by rw [hz.points];exact hk1)=p at *;generalize x.points.xs[k]'(by rw [hz.points];exact hk)=q at *;generalize x.letters.xs[k-1]'(by rw [hz.letters];exact hk1)=s at *;generalize x.letters.xs[k]'(by rw [hz.letters];exact hk)=t at *;generalize x.heights.xs[k-1]'(by rw [hz.heights];exact hk1)=a at *;generalize x.heights.xs[k]'(by rw [hz.heights];exact hk)=b at *;generalize x.course.xs[k-1]'(by have:=hz.course;omega)=c at *;generalize l.sights.xs[k-1]'hk1=y1 at *;generalize l.sights.xs[k]'hk=y2 at *;have hh:=hr.habit;have hsk:=zdo hh hy;have hfr:=fun k=>zc8 (k:=k) hh;have hst:=hfr 1;have hpl:=hfr 2;simp only [farD] at hst hpl;have w1:IntKind.i64.wrap (y2.year - y1.year)=y2.year - y1.year:=wrap64 (by omega) (by omega);have w2:IntKind.i64.wrap (l.habit.sink*(y2.year - y1.year))=l.habit.sink*(y2.year - y1.year):=wrap64 (by omega) (by omega);have w3:IntKind.i64.wrap (a - b)=a - b:=wrap64 (by omega) (by omega);have hn1:∀ H,zu (zg G (n+2)) H (.pure (.func 97 [])) [.pure (.agg p.cells),.pure (.agg q.cells),.pure (.int .i64 l.habit.step)]=some (.val (.pure (.bool (zd0 p q l.habit.step)))):=fun H=>d97 n H p.x p.y q.x q.y l.habit.step ha.1 hb.1 (by simpa using hst);have hn2:∀ H,zu (zg G (n+2)) H (.pure (.func 97 [])) [.pure (.agg p.cells),.pure (.agg q.cells),.pure (.int .i64 l.habit.place)]=some (.val (.pure (.bool (zd0 p q l.habit.place)))):=fun H=>d97 n H p.x p.y q.x q.y l.habit.place ha.1 hb.1 (by simpa using hpl);simp only [Pt.cells] at hn1 hn2 a1 a2;simp only [Sight.cells] at a8 a9;have hc3:c=0\/c=1\/c=2:=by omega
 clear hP ha hb hy hr hz hfr hst hpl hc hsk hh;rcases hc3 with rfl|rfl|rfl
 all_goals (repeat' first|simp [*,ze,c52,gapP,farD,zlV]|(apply zb<;>intro _ h<;>try simp [-Nat.le_zero_eq] at h))
@[simp] theorem d52 (n:Nat) (H:Heap) (l_habit_step:Int) (l_habit_place:Int) (l_habit_sink:Int) (l_sights:Sl Sight) (l_notes:Sl Note) (x_points:Sl Pt) (x_letters:Sl (List UInt8)) (x_heights:Sl Int) (x_course:Sl Int) (k:Nat) (hr:(fun (l:Life)=>Right l) (⟨⟨l_habit_step,l_habit_place,l_habit_sink⟩,l_sights,l_notes⟩:Life)) (hz:(fun (x:Lived)=>(fun (l:Life)=>Sized l x) (⟨⟨l_habit_step,l_habit_place,l_habit_sink⟩,l_sights,l_notes⟩:Life)) (⟨x_points,x_letters,x_heights,x_course⟩:Lived)) (h0:0 < k) (hk:(fun (l:Life)=>k < l.sights.xs.length) (⟨⟨l_habit_step,l_habit_place,l_habit_sink⟩,l_sights,l_notes⟩:Life)) (ha:(fun (x:Lived)=>okR x (k - 1)) (⟨x_points,x_letters,x_heights,x_course⟩:Lived)) (hb:(fun (x:Lived)=>okR x k) (⟨x_points,x_letters,x_heights,x_course⟩:Lived)):zu (zg G (n+3)) H (.pure (.func 52 [])) [.pure (.agg [.int .i64 l_habit_step,.int .i64 l_habit_place,.int .i64 l_habit_sink,(l_sights).pv Sight.cells 9,(l_notes).pv Note.cells 4]),.pure (.agg [(x_points).pv Pt.cells 2,(x_letters).pv strF 1,(x_heights).pv intF 1,(x_course).pv intF 1]),.pure (.int .i64 k)]=some (.val (.pure ((fun (l:Life)=>(fun (x:Lived)=>.bool (gapS l x k)) (⟨x_points,x_letters,x_heights,x_course⟩:Lived)) (⟨⟨l_habit_step,l_habit_place,l_habit_sink⟩,l_sights,l_notes⟩:Life)))) :=
 zi (ps:=[_,_,_]) (caps:=[]) sh52 (e52 n (⟨⟨l_habit_step,l_habit_place,l_habit_sink⟩,l_sights,l_notes⟩:Life) (⟨x_points,x_letters,x_heights,x_course⟩:Lived) k hr hz h0 hk ha hb)
def seeA (s:Sight) (p:Pt) (t:List UInt8) (h:Int):Bool:=zdQ s.box p&&((zc2 t&&zaE t s.letters)&&(decide (s.height.lo<=h)&&decide (h<=s.height.hi)))
def seeS (l:Life) (x:Lived) (k:Nat):Bool:=seeA l.sights.xs[k]! x.points.xs[k]! x.letters.xs[k]! x.heights.xs[k]! && (decide (k=0)||gapS l x k)
theorem zjv {l:Life} {x:Lived} {k:Nat} (h1:k < l.sights.xs.length) (h2:k < x.points.xs.length) (h3:k < x.letters.xs.length) (h4:k < x.heights.xs.length) :
  seeS l x k=(seeA l.sights.xs[k] x.points.xs[k] x.letters.xs[k] x.heights.xs[k]&&(decide (k=0)||gapS l x k)):=by
 unfold seeS;rw [getElem!_pos l.sights.xs k h1,getElem!_pos x.points.xs k h2,getElem!_pos x.letters.xs k h3,getElem!_pos x.heights.xs k h4]
theorem zej {α:Type} {q:α->Bool} {l:List α} {i:Nat} (h:i < l.length):(l.drop i).find? q=if q l[i]=true then some l[i] else (l.drop (i+1)).find? q:=by
 rw [List.drop_eq_getElem_cons h,List.find?_cons]
 cases q l[i]<;>rfl
theorem zfr {q:Nat->Bool} {n i:Nat} (h:i < n):((List.range n).drop i).find? q=if q i=true then some i else ((List.range n).drop (i+1)).find? q:=by
 rw [zej (by simpa using h)];simp
theorem zib {α:Type} {q:α->Bool} {l:List α} {i:Nat} (h:l.length<=i):(l.drop i).find? q=none:=by
 rw [List.drop_eq_nil_of_le h];rfl
def zcO (l:Life) (x:Lived):Prop:=x.points.xs.length=l.sights.xs.length/\x.letters.xs.length=l.sights.xs.length/\x.heights.xs.length=l.sights.xs.length
instance (l:Life) (x:Lived):Decidable (zcO l x):=by unfold zcO;infer_instance
def zc7 (l:Life) (x:Lived):Option Nat:=(List.range l.sights.xs.length).find? fun k=>!seeS l x k
def zcN (l:Life) (x:Lived):Option Note:=l.notes.xs.find? fun m=>!za3 l.sights.xs m x.course.xs
def zfj (l:Life) (x:Lived):Int×Bool×Int :=
 if zW l x.course.xs≠0 then (0,false,zW l x.course.xs) else if zcO l x then
  match zc7 l x with
  | some k=>(l.sights.xs[k]!.id,false,0)
  | none=>match zcN l x with
   | some m=>(m.id,false,0)
   | none=>(0,true,0)
 else (0,false,1)
def zcb (r:Int×Bool×Int):PV:=.tup [.int .i64 r.1,.bool r.2.1,.int .i64 r.2.2]
theorem zmC {l:Life} {x:Lived} (hr:Right l) (hz:zcO l x) {k:Nat} (hk:k < l.sights.xs.length) (h:seeS l x k=true):okR x k:=by
 have hp:=hr.sp (List.getElem_mem (l:=l.sights.xs) (n:=k) hk);rw [zjv hk (by rw [hz.1];exact hk) (by rw [hz.2.1];exact hk) (by rw [hz.2.2];exact hk)] at h;unfold okR okPt;rw [getElem!_pos x.points.xs k (by rw [hz.1];exact hk),getElem!_pos x.heights.xs k (by rw [hz.2.2];exact hk)];simp only [seeA,zdQ,Bool.and_eq_true,decide_eq_true_eq] at h;unfold okSp at hp;omega
theorem zlC {l:Life} {x:Lived} (hr:Right l) (hz:zcO l x) {k:Nat} (hk:k < l.sights.xs.length) (h1:zdQ l.sights.xs[k].box (x.points.xs[k]'(by rw [hz.1];exact hk))=true)
  (h2:l.sights.xs[k].height.lo<=x.heights.xs[k]'(by rw [hz.2.2];exact hk)) (h3:x.heights.xs[k]'(by rw [hz.2.2];exact hk)<=l.sights.xs[k].height.hi):okR x k:=by
 have hp:=hr.sp (List.getElem_mem (l:=l.sights.xs) (n:=k) hk);unfold okR okPt;rw [getElem!_pos x.points.xs k (by rw [hz.1];exact hk),getElem!_pos x.heights.xs k (by rw [hz.2.2];exact hk)];simp only [zdQ,Bool.and_eq_true,decide_eq_true_eq] at h1;unfold okSp at hp;omega
theorem sh17:G.shared 17=false:=by decide
theorem e17 (n:Nat) (l:Life) (x:Lived) (hs:zb8 l) (hc:x.course.xs.length < 1000):zK G (n+7) 17 [.agg l.cells,.agg x.cells]=some (zcb (zfj l x)):=by
 refine zy (zx _) rfl g17 rfl ?_
 obtain ⟨P,hPe⟩:∃ P,P=zcb (zfj l x):=⟨_,rfl⟩
 rw [<- hPe];have hP:Hide _:=⟨hPe⟩
 clear hPe;have hgc:∀ H,zu (zg G (n+6)) H (.pure (.func 47 [])) [.pure (.agg l.cells),.pure (x.course.pv intF 1)]=some (.val (.pure (.int .i64 (zW l x.course.xs)))):=fun H=>d47 n H l.habit.step l.habit.place l.habit.sink l.sights l.notes x.course hs hc;simp only [Life.cells] at hgc
 by_cases hg:zW l x.course.xs=0
 case neg =>
  have hP2:P=.tup [.int .i64 0,.bool false,.int .i64 (zW l x.course.xs)]:=by rw [hP.h];unfold zfj;rw [if_pos hg];rfl
  clear hP;(repeat' first|simp [*,ze,c17]|(apply zb<;>intro _ h<;>try simp [-Nat.le_zero_eq] at h))
 obtain ⟨hr,hcl,hck⟩:=zcU hg
 by_cases hz:zcO l x
 case neg =>
  have hP2:P=.tup [.int .i64 0,.bool false,.int .i64 1]:=by rw [hP.h];unfold zfj;rw [if_neg (by simpa using hg),if_neg hz];rfl
  clear hP;rw [hg] at hgc;have hz':Hide (¬ zcO l x):=⟨hz⟩
  clear hz;(repeat' first|simp [*,ze,c17]|(apply zb<;>intro _ h<;>try simp [-Nat.le_zero_eq] at h))
  all_goals
   exfalso;exact hz'.h ⟨by omega,by omega,by omega⟩
 have hP2:Hide (P=match zc7 l x with
  | some k=>zcb (l.sights.xs[k]!.id,false,0)
  | none=>match zcN l x with
   | some m=>zcb (m.id,false,0)
   | none=>zcb (0,true,0)):=⟨by
    rw [hP.h];unfold zfj;rw [if_neg (by simpa using hg),if_pos hz]
    cases zc7 l x with
    | some k=>rfl
    | none=>cases zcN l x<;>rfl⟩
 rw [hg] at hgc;have hr':Hide (Right l):=⟨hr⟩
 have hz':Hide (zcO l x):=⟨hz⟩
 have hck':Hide (∀ k∈x.course.xs,0<=k/\k<=2):=⟨hck⟩
 have h9:=hr.nine;have h20:=hr.notes;obtain ⟨z1,z2,z3⟩:=hz;clear hP hck hr;(repeat' first|simp [*,ze,c17]|(apply zb<;>intro _ h<;>try simp [-Nat.le_zero_eq] at h))
 refine zU [(4,6),(9,10),(45,98)] (fun (i:Nat) env H=>env 45=.pure (.int .i64 i)/\i<=l.sights.xs.length/\Hide (zc7 l x=((List.range l.sights.xs.length).drop i).find? fun k=>!seeS l x k)/\Hide (∀ j,j < i->seeS l x j=true)) (fun i=>l.sights.xs.length - i) 0 ?_ ?_ ?_ ?_
 ·decide
 ·exact ⟨by simp,by omega,⟨rfl⟩,⟨fun j hj=>by omega⟩⟩
 ·simp only [zN];omega
 rintro i env H ⟨h5,hi,hf,hsee⟩;have hfit:i < 9223372036854775807:=by omega
 by_cases hlt:i < l.sights.xs.length
 ·have hp1:i < x.points.xs.length:=by omega
  have hp2:i < x.letters.xs.length:=by omega
  have hp3:i < x.heights.xs.length:=by omega
  have bad:seeS l x i=false->Hide (P=zcb (l.sights.xs[i].id,false,0)):=fun h=>⟨by
   rw [hP2.h,hf.h,zfr hlt,h];show zcb (l.sights.xs[i]!.id,false,0)=_;rw [getElem!_pos l.sights.xs i hlt]⟩
  have good:seeS l x i=true->Hide (zc7 l x=((List.range l.sights.xs.length).drop (i+1)).find? fun k=>!seeS l x k)/\Hide (∀ j,j < i+1->seeS l x j=true):=fun h=>⟨⟨by
   rw [hf.h,zfr hlt,h];rfl⟩,⟨fun j hj=>by
    rcases Nat.lt_or_ge j i with h1|h1
    ·exact hsee.h j h1
    ·have:j=i:=by omega
     subst this;exact h⟩⟩
  have hat:=zjv (l:=l) (x:=x) hlt hp1 hp2 hp3;have hled:seeA l.sights.xs[i] x.points.xs[i] x.letters.xs[i] x.heights.xs[i]=true->0 < i->Hide (∀ H,zu (zg G (n+6)) H (.pure (.func 52 [])) [.pure (.agg l.cells),.pure (.agg x.cells),.pure (.int .i64 (i:Int))]=some (.val (.pure (.bool (gapS l x i))))):=fun h h0=>⟨fun H=>by
   simp only [seeA,Bool.and_eq_true,decide_eq_true_eq] at h;exact d52 (n+3) H l.habit.step l.habit.place l.habit.sink l.sights l.notes x.points x.letters x.heights x.course i hr'.h ⟨z1,z2,z3,hcl,hck'.h⟩ h0 hlt (zmC hr'.h hz'.h (by omega) (hsee.h _ (by omega))) (zlC hr'.h hz'.h hlt h.1 h.2.2.1 h.2.2.2)⟩
  have a1:=zak (f:=Pt.cells) (sz:=2) (k:=.i64) (s:=x.points) (n:=i) hp1;have a2:=zak (f:=strF) (sz:=1) (k:=.i64) (s:=x.letters) (n:=i) hp2;have a3:=zak (f:=intF) (sz:=1) (k:=.i64) (s:=x.heights) (n:=i) hp3;have a4:=zak (f:=Sight.cells) (sz:=9) (k:=.i64) (s:=l.sights) (n:=i) hlt;generalize l.sights.xs[i]=s at *;generalize x.points.xs[i]=p at *;generalize x.letters.xs[i]=t at *;generalize x.heights.xs[i]=y at *;have c1:∀ H,zu (zg G (n+6)) H (.pure (.func 49 [])) [.pure (.agg s.box.cells),.pure (.agg p.cells)]=some (.val (.pure (.bool (zdQ s.box p)))):=fun H=>d49 (n+2) H _ _ _ _ _ _;have c2:∀ H,zu (zg G (n+6)) H (.pure (.func 50 [])) [.pure (.str ⟨t.toArray⟩),.pure (.str ⟨s.letters.toArray⟩)]=some (.val (.pure (.bool (zc2 t&&zaE t s.letters)))):=fun H=>by rw [<- zi2];exact d50 (n+1) H t s.letters
  have hbb:(seeA s p t y=false/\Hide (P=zcb (s.id,false,0)))\/(seeA s p t y=true/\0 < i/\gapS l x i=false/\Hide (P=zcb (s.id,false,0)))\/(seeA s p t y=true/\(i=0\/0 < i/\gapS l x i=true)/\Hide (zc7 l x=((List.range l.sights.xs.length).drop (i+1)).find? fun k=>!seeS l x k)/\Hide (∀ j,j < i+1->seeS l x j=true)):=by
   cases hA:seeA s p t y with
   | false=>exact .inl ⟨rfl,bad (by rw [hat,hA];rfl)⟩
   | true =>
    rcases Nat.eq_zero_or_pos i with h0|h0
    ·exact .inr (.inr ⟨rfl,.inl h0,good (by rw [hat,hA,h0];rfl)⟩)
    ·cases hB:gapS l x i with
     | false=>exact .inr (.inl ⟨rfl,h0,rfl,bad (by rw [hat,hA,hB];simp;omega)⟩)
     | true=>exact .inr (.inr ⟨rfl,.inr ⟨h0,rfl⟩,good (by rw [hat,hA,hB];simp)⟩)
  simp only [Box.cells] at c1;simp only [Pt.cells] at c1 a1;simp only [Sight.cells] at a4;simp only [Life.cells,Lived.cells] at hled;clear bad good hat hf;rcases hbb with ⟨hA,hB⟩|⟨hA,h0,hD,hB⟩|⟨hA,h0,hB,hC⟩
  ·clear hled;have hA':Hide (seeA s p t y=false):=⟨hA⟩
   clear hA;(repeat' first|simp [*,ze]|(apply zb<;>intro _ h<;>try simp [-Nat.le_zero_eq] at h))
   all_goals first
    | exact hB.h.symm
    | exact hB.h
    | (exfalso;have hA2:=hA'.h;simp [seeA, *] at hA2;done)
    | skip
  ·have hl1:=(hled hA h0).h;clear hled;simp only [seeA,Bool.and_eq_true,decide_eq_true_eq] at hA;(repeat' first|simp [*,ze]|(apply zb<;>intro _ h<;>try simp [-Nat.le_zero_eq] at h))
   all_goals first
    | exact hB.h.symm
    | exact hB.h
    | omega
    | skip
  ·simp only [seeA,Bool.and_eq_true,decide_eq_true_eq] at hA;rcases h0 with h0|⟨h0,hD⟩
   ·clear hled;have h0':Hide (i=0):=⟨h0⟩
    clear h0;(repeat' first|simp [*,ze]|(apply zb<;>intro _ h<;>try simp [-Nat.le_zero_eq] at h))
    all_goals first
     | (exfalso;have:=h0'.h;omega)
     | exact ⟨i+1,by omega,by omega,by omega,hB,hC⟩
   ·have hl1:=(hled (by simp [seeA,hA]) h0).h;clear hled;(repeat' first|simp [*,ze]|(apply zb<;>intro _ h<;>try simp [-Nat.le_zero_eq] at h));exact ⟨i+1,by omega,by omega,by omega,hB,hC⟩
 ·have hn:i=l.sights.xs.length:=by omega
  subst hn;have hns:zc7 l x=none:=by rw [hf.h,zib (by simp)]
  have hP3:Hide (P=match zcN l x with
   | some m=>zcb (m.id,false,0)
   | none=>zcb (0,true,0)):=⟨by rw [hP2.h,hns]⟩
  clear hP2 hsee hf hns hlt hi;(repeat' first|simp [*,ze]|(apply zb<;>intro _ h<;>try simp [-Nat.le_zero_eq] at h))
  refine zU [(4,6),(12,12),(102,114)] (fun (i:Nat) env H=>env 102=.pure (.int .i64 i)/\i<=l.notes.xs.length/\Hide (zcN l x=(l.notes.xs.drop i).find? fun m=>!za3 l.sights.xs m x.course.xs)) (fun i=>l.notes.xs.length - i) 0 ?_ ?_ ?_ ?_
  ·decide
  ·exact ⟨by simp,by omega,⟨rfl⟩⟩
  ·simp only [zN];omega
  rintro i env H ⟨h5,hi,hf⟩;have hfit:i < 9223372036854775807:=by omega
  have hl3:l.sights.xs.length < 1000:=by omega
  have hcl2:x.course.xs.length+1<=l.sights.xs.length:=by omega
  by_cases hlt:i < l.notes.xs.length
  ·cases hm:za3 l.sights.xs l.notes.xs[i] x.course.xs with
   | false =>
    have hB:Hide (P=zcb (l.notes.xs[i].id,false,0)):=⟨by rw [hP3.h,hf.h,zej hlt,hm];rfl⟩
    (repeat' first|simp [*,ze]|(apply zb<;>intro _ h<;>try simp [-Nat.le_zero_eq] at h));exact hB.h.symm
   | true =>
    have hB:Hide (zcN l x=(l.notes.xs.drop (i+1)).find? fun m=>!za3 l.sights.xs m x.course.xs):=⟨by rw [hf.h,zej hlt,hm];rfl⟩
    (repeat' first|simp [*,ze]|(apply zb<;>intro _ h<;>try simp [-Nat.le_zero_eq] at h));exact ⟨i+1,by omega,by omega,by omega,hB⟩
  ·have hn:i=l.notes.xs.length:=by omega
   subst hn;have hB:Hide (P=zcb (0,true,0)):=⟨by rw [hP3.h,hf.h,zib (Nat.le_refl _)]⟩
   clear hf hP3;(repeat' first|simp [*,ze]|(apply zb<;>intro _ h<;>try simp [-Nat.le_zero_eq] at h));exact hB.h.symm
def zbW (s:Span) (v:Int):Int:=max s.lo (min s.hi v)
def exPt (b:List Box):Nat->Pt
 | 0=>⟨b[0]!.x.lo,b[0]!.y.lo⟩
 | k+1=>⟨zbW b[k+1]!.x (exPt b k).x,zbW b[k+1]!.y (exPt b k).y⟩
def exHt (h:List Span) (c:List Int):Nat->Int
 | 0=>h[0]!.hi
 | k+1=>if c[k]! = 0 then min h[k+1]!.hi (exHt h c k) else h[k+1]!.hi
def ptsE (b:List Box) (n:Nat):List Pt:=(List.range n).map (exPt b)
def htsE (h:List Span) (c:List Int) (n:Nat):List Int:=(List.range n).map (exHt h c)
def letE (t:List (List UInt8)) (n:Nat):List (List UInt8):=(List.range n).map fun k=>dotA t[k]!
def exV (t:TellR) (c:List Int) (n:Nat) (s:Sl Int):Lived:=⟨Sl.of (ptsE t.boxes n),Sl.of (letE t.letters n),Sl.of (htsE t.heights c n),s⟩
theorem zgM (b:List Box) (n:Nat):(ptsE b n).length=n:=by simp [ptsE]
theorem zgR (h:List Span) (c:List Int) (n:Nat):(htsE h c n).length=n:=by simp [htsE]
theorem zgL (t:List (List UInt8)) (n:Nat):(letE t n).length=n:=by simp [letE]
theorem zgZ {b:List Box} {n k:Nat} (h:k < n):(ptsE b n)[k]! = exPt b k:=by rw [getElem!_pos _ k (by rw [zgM];exact h)];simp [ptsE]
theorem zg6 {h:List Span} {c:List Int} {n k:Nat} (hk:k < n):(htsE h c n)[k]! = exHt h c k:=by rw [getElem!_pos _ k (by rw [zgR];exact hk)];simp [htsE]
theorem zii {t:List (List UInt8)} {n k:Nat} (h:k < n):(letE t n)[k]! = dotA t[k]! := by rw [getElem!_pos _ k (by rw [zgL];exact h)];simp [letE]
section
variable {R:Span->Prop} {on back:Nat->Span->Span} {l X:List Span}
structure ThruP (on back:Nat->Span->Span) (l X:List Span):Prop where
 len:X.length=l.length
 fullT:∀ j,j < l.length->full X[j]!
 subT:∀ j,j < l.length->sub X[j]! l[j]!
 onT:∀ j,j+1 < l.length->sub X[j+1]! (on j X[j]!)
 backT:∀ j,j+1 < l.length->sub X[j]! (back j X[j+1]!)
theorem ziU (g:Gaps R on back) (hR:∀ s∈l,R s) {m:Nat} (hm:m+1=l.length) (h:zaw on back l=some X):ThruP on back l X:=by
 have hf:∀ i,i < l.length->full (fN on l i):=by
  refine Classical.byContradiction fun hn=>?_
  have:∃ i,i < l.length/\¬ full (fN on l i):=by
   refine Classical.byContradiction fun hc=>hn fun i hi=>Classical.byContradiction fun h=>hc ⟨i,hi,h⟩
  rw [zg4 (back:=back) this] at h
  cases h
 have e:X=bwdS back 0 (fL on l):=by
  rw [zg5 (back:=back) hf] at h;exact (Option.some.inj h).symm
 have hp:=zlg g hR hm hf;have hb:∀ j,X[j]! = bN back (fL on l) j:=fun j=>by rw [e];rfl
 refine ⟨by rw [e,zah,zf9],fun j hj=>?_,fun j hj=>?_,fun j hj=>?_,fun j hj=>?_⟩
 ·rw [hb];exact (hp (m - j) j (by omega)).1
 ·rw [hb]
  refine zgC (hp (m - j) j (by omega)).2.1 ?_
  cases j with
  | zero=>exact zdO _
  | succ j=>rw [fN];exact zdG _ _
 ·rw [hb,hb];exact ((hp (m - j) j (by omega)).2.2 hj).1
 ·rw [hb,hb];exact ((hp (m - j) j (by omega)).2.2 hj).2
end
def refL:List UInt8->List UInt8->Bool
 | [],[]=>true
 | a::t,b::p=>(decide (b=46)||decide (a=b))&&refL t p
 | _,_=>false
theorem zec:∀ t,refL t t=true
 | []=>rfl
 | a::t=>by simp [refL,zec t]
theorem zdA:∀ {t p q:List UInt8},refL t p=true->refL p q=true->refL t q=true
 | [],[],[],_,_=>rfl
 | a::t,b::p,c::q,h1,h2=>by
  simp only [refL,Bool.and_eq_true,Bool.or_eq_true,decide_eq_true_eq] at h1 h2 ⊢
  refine ⟨?_,zdA h1.2 h2.2⟩
  rcases h2.1 with h|h
  ·exact .inl h
  ·rcases h1.1 with h'|h'
   ·exact .inl (by rw [<- h,h'])
   ·exact .inr (h'.trans h)
 | [],[],_::_,_,h=>by simp [refL] at h
 | [],_::_,_,h,_=>by simp [refL] at h
 | _::_,[],_,h,_=>by simp [refL] at h
 | _::_,_::_,[],_,h=>by simp [refL] at h
theorem zjH {b:UInt8}:((b.toNat:Int)=46)↔b=46:=by
 constructor
 ·intro h;have:b.toNat=(46:UInt8).toNat:=by show b.toNat=46;omega
  exact UInt8.toNat_inj.1 this
 ·rintro rfl;rfl
theorem zmh {a b:UInt8}:((a.toNat:Int)=b.toNat)↔a=b:=by
 constructor
 ·intro h;exact UInt8.toNat_inj.1 (by omega)
 ·rintro rfl;rfl
theorem zic:∀ {p q:List UInt8},p.length=q.length->zbY p q=true->refL (mixL p q) p=true/\refL (mixL p q) q=true/\(allC true p=true->allC true q=true->allC true (mixL p q)=true)/\(mixL p q).length=p.length
 | [],[],_,_=>⟨rfl,rfl,fun _ _=>rfl,rfl⟩
 | a::p,b::q,hl,h=>by
  simp only [zbY,Bool.and_eq_true] at h;obtain ⟨i1,i2,i3,i4⟩:=zic (p:=p) (q:=q) (by simpa using hl) h.2;have h1:a=b\/a=46\/b=46:=by
   have:=h.1;simp only [Bool.not_eq_true',Bool.and_eq_false_iff,Bool.not_eq_false',decide_eq_true_eq,zjH,zmh] at this;rcases this with (h|h)|h
   ·exact .inl h
   ·exact .inr (.inl h)
   ·exact .inr (.inr h)
  simp only [mixL,refL,allC,Bool.and_eq_true,Bool.or_eq_true,decide_eq_true_eq,i1,i2,and_true,zjH,List.length_cons,i4]
  refine ⟨?_,?_,fun h3 h4=>⟨?_,i3 h3.2 h4.2⟩⟩
  ·split
   ·rename_i e;exact .inl e
   ·exact .inr rfl
  ·split
   ·exact .inr rfl
   ·rename_i e;rcases h1 with h|h|h
    ·exact .inr h
    ·exact absurd h e
    ·exact .inl h
  ·split
   ·exact h4.1
   ·exact h3.1
 | [],_::_,h,_=>by simp at h
 | _::_,[],h,_=>by simp at h
theorem zfg:∀ {t p:List UInt8},allC true t=true->refL t p=true->zc2 (dotA t)=true/\zbY (dotA t) p=true/\allC true (dotA t)=true/\(dotA t).length=p.length
 | [],[],_,_=>⟨rfl,rfl,rfl,rfl⟩
 | a::t,b::p,hc,h=>by
  simp only [allC,Bool.and_eq_true] at hc;simp only [refL,Bool.and_eq_true,Bool.or_eq_true,decide_eq_true_eq] at h;obtain ⟨i1,i2,i3,i4⟩:=zfg (t:=t) (p:=p) hc.2 h.2;have i1':zc2 (List.map dotC t)=true:=i1;have i2':zbY (List.map dotC t) p=true:=i2;have i3':allC true (List.map dotC t)=true:=i3;have i4':(List.map dotC t).length=p.length:=i4;have hd:dotC a≠46:=by unfold dotC;split;decide;assumption
  simp only [dotA,List.map_cons,zc2,zbY,allC,Bool.and_eq_true,i1',i2',i3',and_true,List.length_cons,i4']
  refine ⟨?_,?_,?_⟩
  ·simp only [Bool.not_eq_true',decide_eq_false_iff_not,zjH];exact hd
  ·simp only [Bool.not_eq_true',Bool.and_eq_false_iff,Bool.not_eq_false',decide_eq_true_eq,zjH,zmh];rcases h.1 with h|h
   ·exact .inr h
   ·by_cases e:a=46
    ·exact .inr (h ▸ e)
    ·refine .inl (.inl ?_)
     unfold dotC;rw [if_neg e];exact h
  ·unfold dotC
   split
   ·rfl
   ·exact hc.1
 | [],_::_,_,h=>by simp [refL] at h
 | _::_,[],_,h=>by simp [refL] at h
structure GoP (p:List UInt8) (m:Nat) (r:List (Int×List UInt8)) (t:List (List UInt8)):Prop where
 len:t.length=m+r.length
 head:∀ i,i < m->patR t[i]! = true/\refL t[i]! p=true
 rest:∀ i,i < r.length->patR t[m+i]! = true/\refL t[m+i]! r[i]!.2=true
 run:∀ i,i+1 < m->t[i]! = t[i+1]!
 gap:∀ i,i < r.length->r[i]!.1≠2->t[m+i-1]! = t[m+i]!
theorem zlN {p q:List UInt8} (hp:patR p=true) (h:zaE p q=true):patR (mixL p q)=true/\refL (mixL p q) p=true/\refL (mixL p q) q=true:=by
 simp only [zaE,patR,Bool.and_eq_true,decide_eq_true_eq] at h hp;obtain ⟨⟨⟨h1,h2⟩,h3⟩,h4⟩:=h;obtain ⟨a1,a2,a3,a4⟩:=zic (p:=p) (q:=q) (by omega) h4
 refine ⟨?_,a1,a2⟩
 simp only [patR,Bool.and_eq_true,decide_eq_true_eq,a4];exact ⟨⟨a3 h1.1.1 h2.1.1,h1.1.2⟩,h1.2⟩
theorem zk3:∀ (r:List (Int×List UInt8)) (p:List UInt8) (m:Nat) (t:List (List UInt8)),1<=m->patR p=true->(∀ x∈r,patR x.2=true)->goL p m r=some t->GoP p m r t
 | [],p,m,t,hm,hp,_,h=>by
  simp only [goL,Option.some.injEq] at h;subst h;have at_:∀ i,i < m->(List.replicate m p)[i]! = p:=fun i hi=>by rw [getElem!_pos _ i (by simpa using hi)];simp
  exact ⟨by simp,fun i hi=>by rw [at_ i hi];exact ⟨hp,zec _⟩,fun i hi=>by simp at hi,fun i hi=>by rw [at_ i (by omega),at_ (i+1) hi],fun i hi=>by simp at hi⟩
 | (k,u)::r,p,m,t,hm,hp,hr,h=>by
  have hu:patR u=true:=hr (k,u) List.mem_cons_self;have hr':∀ x∈r,patR x.2=true:=fun x hx=>hr x (List.mem_cons_of_mem _ hx)
  by_cases hk:k=2
  ·simp only [goL,if_pos hk,Option.map_eq_some_iff] at h;obtain ⟨t',ht',rfl⟩:=h;have g:=zk3 r u 1 t' (Nat.le_refl _) hu hr' ht';have hl:=g.len;have a1:∀ i,i < m->(List.replicate m p++t')[i]! = p:=fun i hi=>by
    rw [getElem!_pos _ i (by simp;omega),List.getElem_append_left (by simpa using hi)];simp
   have a2:∀ i,i < t'.length->(List.replicate m p++t')[m+i]! = t'[i]! := fun i hi=>by
    rw [getElem!_pos _ (m+i) (by simp;omega),getElem!_pos t' i hi,List.getElem_append_right (by simp)];simp
   refine ⟨by simp [hl];omega,fun i hi=>by rw [a1 i hi];exact ⟨hp,zec _⟩,fun i hi=>?_,fun i hi=>by rw [a1 i (by omega),a1 (i+1) hi],fun i hi hne=>?_⟩
   ·cases i with
    | zero=>rw [a2 0 (by omega)];exact g.head 0 (by omega)
    | succ i =>
     have:=g.rest i (by simpa using hi);simp only [List.length_cons] at hi;rw [a2 (i+1) (by omega),Nat.add_comm i 1];rw [show 1+i=i+1 by omega] at this ⊢
     simpa using this
   ·cases i with
    | zero=>simp at hne;exact absurd hk hne
    | succ i =>
     have h2:=g.gap i (by simpa using hi) (by simpa using hne);simp only [List.length_cons] at hi;rw [show m+(i+1) - 1=m+i by omega,a2 i (by omega),a2 (i+1) (by omega)];rw [show 1+i - 1=i by omega,show 1+i=i+1 by omega] at h2;exact h2
  ·simp only [goL,if_neg hk] at h
   split at h
   ·rename_i hag;obtain ⟨b1,b2,b3⟩:=zlN hp hag;have g:=zk3 r (mixL p u) (m+1) t (by omega) b1 hr' h
    refine ⟨by rw [g.len];simp;omega,fun i hi=>?_,fun i hi=>?_,fun i hi=>g.run i (by omega),fun i hi hne=>?_⟩
    ·obtain ⟨c1,c2⟩:=g.head i (by omega);exact ⟨c1,zdA c2 b2⟩
    ·cases i with
     | zero =>
      obtain ⟨c1,c2⟩:=g.head m (by omega);exact ⟨c1,zdA c2 b3⟩
     | succ i =>
      have:=g.rest i (by simpa using hi);rw [show m+1+i=m+(i+1) by omega] at this
      simpa using this
    ·cases i with
     | zero =>
      have:=g.run (m - 1) (by omega);rw [show m - 1+1=m by omega] at this
      simpa using this
     | succ i =>
      have:=g.gap i (by simpa using hi) (by simpa using hne);rw [show m+1+i - 1=m+(i+1) - 1 by omega,show m+1+i=m+(i+1) by omega] at this;exact this
   ·cases h
structure TellP (l:Life) (c:List Int) (t:TellR):Prop where
 right:Right l
 len:c.length+1=l.sights.xs.length
 notes:∀ m∈l.notes.xs,za3 l.sights.xs m c=true
 x:∃ X Y,ThruP (onX l c) (onX l c) (l.sights.xs.map (·.box.x)) X/\ThruP (onX l c) (onX l c) (l.sights.xs.map (·.box.y)) Y/\t.boxes=X.zipWith Box.mk Y
 h:ThruP (onH l c) (zdd l c) (l.sights.xs.map (·.height)) t.heights
 ls:GoP (l.sights.xs[0]!).letters 1 (za2 l.sights.xs c) t.letters
theorem zk7 {l:Life} {c:List Int} {t:TellR} (hg:zW l c=0) (ht:zao l c=some t):TellP l c t:=by
 obtain ⟨hr,hc,hk⟩:=zcU hg;have h1:=hr.one;unfold zao at ht
 split at ht
 case isFalse=>cases ht
 rename_i hn
 cases hX:thX l c with
 | none=>rw [hX] at ht;simp at ht
 | some X =>
  cases hY:thY l c with
  | none=>rw [hX,hY] at ht;simp at ht
  | some Y =>
   cases hH:thH l c with
   | none=>rw [hX,hY,hH] at ht;simp at ht
   | some H =>
    cases hT:zaU l.sights.xs c with
    | none=>rw [hX,hY,hH,hT] at ht;simp at ht
    | some T =>
     rw [hX,hY,hH,hT] at ht;simp only [Option.some.injEq] at ht;subst ht
     refine ⟨hr,hc,allL_iff.1 hn,⟨X,Y,ziU (zl7 hr c) (fun _ _=>trivial) (m:=c.length) (by simpa using hc) hX,ziU (zl7 hr c) (fun _ _=>trivial) (m:=c.length) (by simpa using hc) hY,rfl⟩,
      ziU (zoa hr c) (fun s hs=>?_) (m:=c.length) (by simpa using hc) hH,?_⟩
     ·obtain ⟨u,hu,rfl⟩:=List.mem_map.1 hs;have:=hr.sp hu;exact ⟨this.2.2.2.1,this.2.2.2.2.1⟩
     ·have hp:∀ s∈l.sights.xs,patR s.letters=true:=fun s hs=>by
       have:=hr.sight s hs;simp only [zcY,Bool.and_eq_true] at this;exact this.1.2
      unfold zaU zfo at hT;rw [dif_pos (by omega),List.drop_zero] at hT;have e0:l.sights.xs[0]! = l.sights.xs[0]'(by omega):=getElem!_pos _ 0 (by omega);rw [e0]
      refine zk3 _ _ 1 T (Nat.le_refl _) (hp _ (List.getElem_mem _)) (fun x hx=>?_) hT
      have h2:=(List.of_mem_zip hx).2;have h3:x.2∈lets l.sights.xs:=List.mem_of_mem_tail h2;obtain ⟨u,hu,e⟩:=List.mem_map.1 h3;rw [<- e];exact hp u hu
section
variable {l:Life} {c:List Int} {t:TellR}
theorem TellP.box (h:TellP l c t) {k:Nat} (hk:k < l.sights.xs.length):full t.boxes[k]!.x/\full t.boxes[k]!.y/\sub t.boxes[k]!.x l.sights.xs[k]!.box.x/\sub t.boxes[k]!.y l.sights.xs[k]!.box.y /\
  (k+1 < l.sights.xs.length->sub t.boxes[k]!.x (onD (farD l.habit c[k]!) t.boxes[k+1]!.x)/\sub t.boxes[k]!.y (onD (farD l.habit c[k]!) t.boxes[k+1]!.y)):=by
 obtain ⟨X,Y,hX,hY,e⟩:=h.x;have lX:X.length=l.sights.xs.length:=by simpa using hX.len
 have lY:Y.length=l.sights.xs.length:=by simpa using hY.len
 have at_:∀ j,j < l.sights.xs.length->t.boxes[j]! = ⟨X[j]!,Y[j]!⟩:=fun j hj=>by
  rw [e,getElem!_pos _ j (by simp;omega),getElem!_pos X j (by omega),getElem!_pos Y j (by omega)];simp
 have mx:(l.sights.xs.map (·.box.x))[k]! = l.sights.xs[k]!.box.x:=by rw [getElem!_pos _ k (by simpa using hk),getElem!_pos l.sights.xs k hk];simp
 have my:(l.sights.xs.map (·.box.y))[k]! = l.sights.xs[k]!.box.y:=by rw [getElem!_pos _ k (by simpa using hk),getElem!_pos l.sights.xs k hk];simp
 rw [at_ k hk]
 refine ⟨hX.fullT k (by simpa using hk),hY.fullT k (by simpa using hk),by rw [<- mx];exact hX.subT k (by simpa using hk),by rw [<- my];exact hY.subT k (by simpa using hk),fun hk1=>?_⟩
 rw [at_ (k+1) hk1];exact ⟨hX.backT k (by simpa using hk1),hY.backT k (by simpa using hk1)⟩
theorem TellP.pt (h:TellP l c t):∀ k,k < l.sights.xs.length->t.boxes[k]!.x.lo<=(exPt t.boxes k).x/\(exPt t.boxes k).x<=t.boxes[k]!.x.hi/\t.boxes[k]!.y.lo<=(exPt t.boxes k).y/\(exPt t.boxes k).y<=t.boxes[k]!.y.hi:=fun k hk=>by
 obtain ⟨f1,f2,_⟩:=h.box hk;unfold full at f1 f2
 cases k with
 | zero=>simp only [exPt];omega
 | succ k=>simp only [exPt,zbW];omega
theorem TellP.near (h:TellP l c t) {k:Nat} (hk:k+1 < l.sights.xs.length):zd0 (exPt t.boxes k) (exPt t.boxes (k+1)) (farD l.habit c[k]!)=true:=by
 have p:=h.pt k (by omega);obtain ⟨f1,f2,_⟩:=h.box hk;obtain ⟨_,_,_,_,g⟩:=h.box (k:=k) (by omega);obtain ⟨⟨g1,g2⟩,g3,g4⟩:=g hk;clear g;have hd:=zc8 (k:=c[k]!) h.right.habit;generalize farD l.habit c[k]! = d at *;unfold full at f1 f2;simp only [onD] at g1 g2 g3 g4;unfold zd0;simp only [Bool.and_eq_true,decide_eq_true_eq];have ex:(exPt t.boxes (k+1)).x=zbW t.boxes[k+1]!.x (exPt t.boxes k).x:=rfl;have ey:(exPt t.boxes (k+1)).y=zbW t.boxes[k+1]!.y (exPt t.boxes k).y:=rfl;rw [ex,ey];unfold zbW;omega
theorem TellP.ht (h:TellP l c t) {k:Nat} (hk:k < l.sights.xs.length):full t.heights[k]! /\ sub t.heights[k]! l.sights.xs[k]!.height/\(k+1 < l.sights.xs.length->sub t.heights[k]! (zcE l.habit c[k]! (yrS l.sights.xs k) t.heights[k+1]!)):=by
 have hH:=h.h;have mx:(l.sights.xs.map (·.height))[k]! = l.sights.xs[k]!.height:=by rw [getElem!_pos _ k (by simpa using hk),getElem!_pos l.sights.xs k hk];simp
 refine ⟨hH.fullT k (by simpa using hk),by rw [<- mx];exact hH.subT k (by simpa using hk),fun hk1=>?_⟩
 have:=hH.backT k (by simpa using hk1);unfold zdd at this;rwa [if_pos hk1] at this
theorem TellP.hin (h:TellP l c t):∀ k,k < l.sights.xs.length->t.heights[k]!.lo<=exHt t.heights c k/\exHt t.heights c k<=t.heights[k]!.hi
 | 0,hk=>by
  have f:=(h.ht hk).1;unfold full at f;simp only [exHt];omega
 | k+1,hk=>by
  have f:=(h.ht hk).1;have ih:=h.hin k (by omega);have g:=(h.ht (k:=k) (by omega)).2.2 hk;unfold full at f;simp only [exHt]
  split
  ·rename_i hc;unfold zcE sub at g;rw [if_pos hc] at g;simp only at g;omega
  ·omega
theorem TellP.fall (h:TellP l c t) {k:Nat} (hk:k+1 < l.sights.xs.length) (hc:c[k]! = 0):0<=exHt t.heights c k - exHt t.heights c (k+1)/\exHt t.heights c k - exHt t.heights c (k+1)<=l.habit.sink*yrS l.sights.xs k:=by
 have i1:=h.hin k (by omega);have g:=(h.ht (k:=k) (by omega)).2.2 hk;have hy:=h.right.yr hk;have hyr:yrS l.sights.xs k=l.sights.xs[k+1].year - l.sights.xs[k].year:=by rw [yrS,getElem!_pos _ k (by omega),getElem!_pos _ (k+1) hk]
 have hs:=(zdo (y:=yrS l.sights.xs k) h.right.habit (by rw [hyr];exact hy)).1;unfold zcE sub at g;rw [if_pos hc] at g;simp only at g;simp only [exHt,if_pos hc];generalize l.habit.sink*yrS l.sights.xs k=z at *;omega
theorem TellP.reads (h:TellP l c t) {k:Nat} (hk:k < l.sights.xs.length):zc2 (dotA t.letters[k]!)=true/\zaE (dotA t.letters[k]!) l.sights.xs[k]!.letters=true:=by
 have hg:=h.ls;have hl:=h.len;have hgl:(za2 l.sights.xs c).length=c.length:=by simp [za2,lets];omega
 have key:patR t.letters[k]! = true/\refL t.letters[k]! l.sights.xs[k]!.letters=true:=by
  cases k with
  | zero=>exact hg.head 0 (by omega)
  | succ k =>
   have:=hg.rest k (by omega);have e2:(za2 l.sights.xs c)[k]!.2=l.sights.xs[k+1]!.letters:=by
    rw [getElem!_pos _ k (by omega),getElem!_pos _ (k+1) hk];simp [za2,lets]
   rw [e2,Nat.add_comm 1 k] at this;exact this
 have hp:patR l.sights.xs[k]!.letters=true:=by
  rw [getElem!_pos _ k hk];have:=h.right.sight _ (List.getElem_mem hk);simp only [zcY,Bool.and_eq_true] at this;exact this.1.2
 obtain ⟨k1,k2⟩:=key;have kc:allC true t.letters[k]! = true:=by
  simp only [patR,Bool.and_eq_true] at k1;exact k1.1.1
 obtain ⟨r1,r2,r3,r4⟩:=zfg kc k2
 refine ⟨r1,?_⟩
 simp only [zaE,patR,Bool.and_eq_true,decide_eq_true_eq] at hp ⊢
 refine ⟨⟨⟨⟨⟨r3,?_⟩,?_⟩,hp⟩,?_⟩,r2⟩<;>rw [r4]<;>omega
theorem TellP.same (h:TellP l c t) {k:Nat} (hk:k+1 < l.sights.xs.length) (hc:c[k]! ≠ 2):t.letters[k]! = t.letters[k+1]! := by
 have hg:=h.ls;have hl:=h.len;have hgl:(za2 l.sights.xs c).length=c.length:=by simp [za2,lets];omega
 have e3:(za2 l.sights.xs c)[k]!.1=c[k]! := by
  rw [getElem!_pos _ k (by omega),getElem!_pos c k (by omega)];simp [za2]
 have:=hg.gap k (by omega) (by rw [e3];exact hc);rwa [show 1+k - 1=k by omega,Nat.add_comm 1 k] at this
theorem TellP.see (h:TellP l c t) (s:Sl Int) (hs:s.xs=c) {k:Nat} (hk:k < l.sights.xs.length):seeS l (exV t c l.sights.xs.length s) k=true:=by
 unfold seeS;have e1:(exV t c l.sights.xs.length s).points.xs=ptsE t.boxes l.sights.xs.length:=Sl.xs_of _;have e2:(exV t c l.sights.xs.length s).letters.xs=letE t.letters l.sights.xs.length:=Sl.xs_of _;have e3:(exV t c l.sights.xs.length s).heights.xs=htsE t.heights c l.sights.xs.length:=Sl.xs_of _;have e4:(exV t c l.sights.xs.length s).course.xs=c:=hs;rw [e1,e2,e3,zgZ hk,zii hk,zg6 hk,Bool.and_eq_true]
 constructor
 ·have p:=h.pt k hk;obtain ⟨_,_,b1,b2,_⟩:=h.box hk;have i1:=h.hin k hk;have i2:=(h.ht hk).2.1;obtain ⟨r1,r2⟩:=h.reads hk;have hp:zcd l.sights.xs[k]!.box=true:=by
   rw [zeu,getElem!_pos _ k hk];have:=h.right.sight _ (List.getElem_mem hk);simp only [zcY,Bool.and_eq_true] at this;exact this.1.1.2
  unfold sub at b1 b2 i2;simp only [seeA,zdQ,Bool.and_eq_true,decide_eq_true_eq,hp,r1,r2,true_and,and_true];omega
 ·cases k with
  | zero=>rfl
  | succ k =>
   rw [Bool.or_eq_true];right;unfold gapS;rw [e1,e2,e3,e4,show k+1 - 1=k by omega,zgZ hk,zgZ (k:=k) (by omega),zii hk,zii (k:=k) (by omega),zg6 hk,zg6 (k:=k) (by omega)];have hn:=h.near hk;unfold gapP
   by_cases hc:c[k]! = 0
   ·have hfa:=h.fall hk hc;have hsa:=h.same hk (by omega);have hf0:farD l.habit c[k]! = 0:=by unfold farD;rw [hc];simp
    rw [hf0] at hn;simp only [zd0,Bool.and_eq_true,decide_eq_true_eq] at hn;unfold yrS at hfa;rw [if_pos hc,hsa];simp only [Bool.and_eq_true,decide_eq_true_eq];exact ⟨⟨by omega,trivial⟩,hfa⟩
   ·rw [if_neg hc,hn,Bool.and_true]
    by_cases h2:c[k]! = 2
    ·simp [h2]
    ·rw [h.same hk h2];simp
theorem zlD (hg:zW l c=0) (ht:zao l c=some t) (s:Sl Int) (hs:s.xs=c):zfj l (exV t c l.sights.xs.length s)=(0,true,0):=by
 have h:=zk7 hg ht;have hz:zcO l (exV t c l.sights.xs.length s):=⟨by rw [show (exV t c l.sights.xs.length s).points.xs=ptsE t.boxes l.sights.xs.length from Sl.xs_of _];exact zgM _ _,by rw [show (exV t c l.sights.xs.length s).letters.xs=letE t.letters l.sights.xs.length from Sl.xs_of _];exact zgL _ _,by rw [show (exV t c l.sights.xs.length s).heights.xs=htsE t.heights c l.sights.xs.length from Sl.xs_of _];exact zgR _ _ _⟩
 have e4:(exV t c l.sights.xs.length s).course.xs=c:=hs;have hb:zc7 l (exV t c l.sights.xs.length s)=none:=List.find?_eq_none.2 fun k hk=>by rw [h.see s hs (List.mem_range.1 hk)];decide
 have hn:zcN l (exV t c l.sights.xs.length s)=none:=List.find?_eq_none.2 fun m hm=>by rw [e4,h.notes m hm];decide
 unfold zfj;rw [e4,if_neg (by simp [hg]),if_pos hz,hb,hn]
end
set_option maxHeartbeats 8000000
set_option maxRecDepth 4000
theorem sh33:G.shared 33=false:=by decide
theorem e33 (n:Nat) (v:Int) (s:Span):zK G (n+1) 33 [.int .i64 v,.agg s.cells]=some (.int .i64 (zbW s v)):=by
 refine zy (zx _) rfl g33 rfl ?_
 (repeat' first|simp [*,ze,c33,zbW]|(apply zb<;>intro _ h<;>try simp [-Nat.le_zero_eq] at h))
@[simp] theorem d33 (n:Nat) (H:Heap) (v:Int) (s_lo:Int) (s_hi:Int):zu (zg G (n+1)) H (.pure (.func 33 [])) [.pure (.int .i64 v),.pure (.agg [.int .i64 s_lo,.int .i64 s_hi])]=some (.val (.pure ((fun (s:Span)=>.int .i64 (zbW s v)) (⟨s_lo,s_hi⟩:Span)))) :=
 zi (ps:=[_,_]) (caps:=[]) sh33 (e33 n v (⟨s_lo,s_hi⟩:Span))
theorem zlP (s:ByteArray) (h:s.size<=20):zgU s ⟨#[46]⟩ ⟨#[65]⟩:=by
 have h1:=Go.Lib.countB_mul_le ⟨#[46]⟩ (by decide) s.size s (Nat.le_refl _);have e1:(⟨#[46]⟩:ByteArray).size=1:=rfl;have e2:(⟨#[65]⟩:ByteArray).size=1:=rfl;rw [e1] at h1
 refine ⟨by omega,by rw [e1];omega,by rw [e2];omega⟩
theorem zlG:G.shared 34=false:=by decide
theorem zjM (n:Nat) (t:List UInt8) (h:t.length<=20):zK G (n+1) 34 [.str ⟨t.toArray⟩,.str ⟨#[46]⟩,.str ⟨#[65]⟩]=some (.str ⟨(dotA t).toArray⟩):=by
 unfold zK;rw [zx];have hr:G.extRun 34 [.pure (.str ⟨t.toArray⟩),.pure (.str ⟨#[46]⟩),.pure (.str ⟨#[65]⟩)] Heap.empty=some (.pure (.str ⟨(dotA t).toArray⟩),Heap.empty):=by
  have hG:∀ xs H,G.extRun 34 xs H=zdV xs H:=fun xs H=>by simp [G]
  rw [hG];unfold zdV;simp only;rw [if_pos (zlP _ (by show t.toArray.size<=20;simpa using h))];have e:Go.Lib.replaceAll t.toArray.toList [46] [65]=dotA t:=by rw [List.toList_toArray];exact zfH t
  show some (AV.pure (.str ⟨(Go.Lib.replaceAll t.toArray.toList [46] [65]).toArray⟩),Heap.empty)=_;rw [e]
 simp only [List.map_cons,List.map_nil];rw [zeJ,hr];rfl
def zbo (c:Sl Int):Sl Int:=match c with
 | .nil=>.nil
 | .mk _ l=>.mk false l
theorem zjN (c:Sl Int):(zbo c).xs=c.xs:=by cases c<;>rfl
theorem zjU {n:Nat} {H:Heap} {v:AV} {c:Sl Int} (h:OwnV intF 1 H v c.xs) (hn:isNil .slice v=some c.isNil):FrzK H false (n+2) v ((zbo c).pv intF 1):=by
 rcases h with ⟨h1,rfl⟩|⟨id,rfl,hg⟩
 ·cases c with
  | nil=>exact .pure _
  | mk hot l=>simp [isNil,Sl.isNil] at hn
 ·cases c with
  | nil=>simp [isNil,Sl.isNil] at hn
  | mk hot l=>exact zgQ (f:=intF) (sz:=1) (fun _=>rfl) hg rfl
theorem ziD {α:Type} {f:α->List PV} {sz id off:Nat} {H:Heap} {v:AV} {l:List α} (h:OwnV f sz H v l) (hn:¬ Names v id):zcm v (.box id off)=true:=by
 rcases h with ⟨_,rfl⟩|⟨rid,rfl,_⟩
 ·rfl
 ·simp only [zcm,bne_iff_ne,ne_eq];exact fun e=>hn ⟨_,_,_,by rw [e]⟩
def exE (l:Life) (c:Sl Int):PV:=if zW l c.xs=0 then (match zao l c.xs with
 | some t=>.tup [.agg (exV t c.xs l.sights.xs.length (zbo c)).cells,.int .i64 0]
 | none=>.tup [.agg [.nils,.nils,.nils,.nils],.int .i64 9]) else .tup [.agg [.nils,.nils,.nils,.nils],.int .i64 (zW l c.xs)]
structure ExI (t:TellR) (H:Heap) (X:Nat) (w1 w2 w3 va vb vd vc:AV) (A:List Pt) (B:List Int) (D:List (List UInt8)) (C:List Int):Prop where
 k0:H.get 0=.cells true [.pure .nils,.pure .nils,.pure .nils,.pure .nils]
 k1:H.get 1=.cells true [.pure ((Sl.of t.boxes).pv Box.cells 4),.pure ((Sl.of t.heights).pv Span.cells 2),.pure ((Sl.of t.letters).pv strF 1)]
 kX:H.get X=.cells true [w1,w2,w3,vc]
 x2:2<=X
 ga:GrowV Pt.cells 2 H va A
 gb:GrowV intF 1 H vb B
 gd:GrowV strF 1 H vd D
 oc:OwnV intF 1 H vc C
 dis:(∀ id,Names vb id->¬ Names va id)/\(∀ id,Names vd id->¬ Names va id)/\(∀ id,Names vd id->¬ Names vb id)/\(∀ id,Names vc id->¬ Names va id)/\(∀ id,Names vc id->¬ Names vb id)/\(∀ id,Names vc id->¬ Names vd id)
 n0:¬ Names va 0/\¬ Names vb 0/\¬ Names vd 0/\¬ Names vc 0
 n1:¬ Names va 1/\¬ Names vb 1/\¬ Names vd 1/\¬ Names vc 1
 nX:¬ Names va X/\¬ Names vb X/\¬ Names vd X/\¬ Names vc X
section
variable {t:TellR} {H:Heap} {X:Nat} {w1 w2 w3 va vb vd vc:AV} {A:List Pt} {B:List Int} {D:List (List UInt8)} {C:List Int}
theorem OwnV.setO {α:Type} {f:α->List PV} {sz:Nat} {v:AV} {l:List α} {id:Nat} (h:OwnV f sz H v l) (hn:¬ Names v id) (o:AObj):OwnV f sz (H.set id o) v l :=
 h.keep fun i ⟨k,hk⟩=>zt fun e=>hn (e ▸ ⟨_,_,_,hk⟩)
theorem ExI.alloc (h:ExI t H X w1 w2 w3 va vb vd vc A B D C) (o:AObj):ExI t (H.alloc o) X w1 w2 w3 va vb vd vc A B D C :=
 ⟨by rw [zA (zJ h.k0)];exact h.k0,by rw [zA (zJ h.k1)];exact h.k1,by rw [zA (zJ h.kX)];exact h.kX,h.x2,h.ga.alloc _,h.gb.alloc _,h.gd.alloc _,h.oc.alloc _,h.dis,h.n0,h.n1,h.nX⟩
theorem ExI.lt (h:ExI t H X w1 w2 w3 va vb vd vc A B D C):0 < H.nx/\1 < H.nx/\X < H.nx:=⟨zJ h.k0,zJ h.k1,zJ h.kX⟩
theorem ExI.fresh (h:ExI t H X w1 w2 w3 va vb vd vc A B D C) {id:Nat} (hi:H.nx<=id):¬ Names va id/\¬ Names vb id/\¬ Names vd id/\¬ Names vc id :=
 ⟨h.ga.1.fresh _ hi,h.gb.1.fresh _ hi,h.gd.1.fresh _ hi,h.oc.fresh _ hi⟩
theorem ExI.setF (h:ExI t H X w1 w2 w3 va vb vd vc A B D C) {id:Nat} (hid:1 < id/\id≠X) (hn:¬ Names va id/\¬ Names vb id/\¬ Names vd id/\¬ Names vc id) (o:AObj):ExI t (H.set id o) X w1 w2 w3 va vb vd vc A B D C :=
 ⟨by rw [zt (by omega)];exact h.k0,by rw [zt (by omega)];exact h.k1,by rw [zt (Ne.symm hid.2)];exact h.kX,h.x2,h.ga.set hn.1 _,h.gb.set hn.2.1 _,h.gd.set hn.2.2.1 _,h.oc.setO hn.2.2.2 _,h.dis,h.n0,h.n1,h.nX⟩
theorem ExI.setX (h:ExI t H X w1 w2 w3 va vb vd vc A B D C) (y1 y2 y3:AV):ExI t (H.set X (.cells true [y1,y2,y3,vc])) X y1 y2 y3 va vb vd vc A B D C:=by
 have x2:=h.x2;exact ⟨by rw [zt (by omega)];exact h.k0,by rw [zt (by omega)];exact h.k1,z8 (zJ h.kX),h.x2,h.ga.set h.nX.1 _,h.gb.set h.nX.2.1 _,h.gd.set h.nX.2.2.1 _,h.oc.setO h.nX.2.2.2 _,h.dis,h.n0,h.n1,h.nX⟩
theorem After.own {α β:Type} {f:α->List PV} {sz:Nat} {v v' w:AV} {H':Heap} {m:List α} (ha:After v H v' H') (h:OwnV f sz H w m) (hd:∀ id,Names w id->¬ Names v id):OwnV f sz H' w m/\∀ id,Names w id->¬ Names v' id:=by
 refine ⟨h.keep fun i ⟨n,hi⟩=>ha.get i (h.names_lt ⟨_,_,_,hi⟩) (hd i ⟨_,_,_,hi⟩),fun id hw hv=>?_⟩
 have:=ha.new id hv;have:=h.names_lt hw;omega
theorem ExI.appA (h:ExI t H X w1 w2 w3 va vb vd vc A B D C) {v':AV} {H':Heap} {A':List Pt} (g:GrowV Pt.cells 2 H' v' A') (ha:After va H v' H'):ExI t H' X w1 w2 w3 v' vb vd vc A' B D C:=by
 obtain ⟨l0,l1,lX⟩:=h.lt;obtain ⟨d1,d2,d3,d4,d5,d6⟩:=h.dis;obtain ⟨b1,b2⟩:=ha.grow h.gb d1;obtain ⟨c1,c2⟩:=ha.grow h.gd d2;obtain ⟨e1,e2⟩:=After.own (β:=Int) ha h.oc d4;have nw:∀ id,id < H.nx->¬ Names v' id:=fun id hi hn=>by have:=ha.new id hn;omega
 exact ⟨by rw [ha.get 0 l0 h.n0.1];exact h.k0,by rw [ha.get 1 l1 h.n1.1];exact h.k1,by rw [ha.get X lX h.nX.1];exact h.kX,h.x2,g,b1,c1,e1,⟨b2,c2,d3,e2,d5,d6⟩,⟨nw 0 l0,h.n0.2⟩,⟨nw 1 l1,h.n1.2⟩,⟨nw X lX,h.nX.2⟩⟩
theorem ExI.appB (h:ExI t H X w1 w2 w3 va vb vd vc A B D C) {v':AV} {H':Heap} {B':List Int} (g:GrowV intF 1 H' v' B') (ha:After vb H v' H'):ExI t H' X w1 w2 w3 va v' vd vc A B' D C:=by
 obtain ⟨l0,l1,lX⟩:=h.lt;obtain ⟨d1,d2,d3,d4,d5,d6⟩:=h.dis;obtain ⟨b1,b2⟩:=ha.grow h.ga (fun id x y=>d1 id y x);obtain ⟨c1,c2⟩:=ha.grow h.gd d3;obtain ⟨e1,e2⟩:=After.own (β:=Int) ha h.oc d5;have nw:∀ id,id < H.nx->¬ Names v' id:=fun id hi hn=>by have:=ha.new id hn;omega
 exact ⟨by rw [ha.get 0 l0 h.n0.2.1];exact h.k0,by rw [ha.get 1 l1 h.n1.2.1];exact h.k1,by rw [ha.get X lX h.nX.2.1];exact h.kX,h.x2,b1,g,c1,e1,⟨fun id x y=>b2 id y x,d2,c2,d4,e2,d6⟩,⟨h.n0.1,nw 0 l0,h.n0.2.2⟩,⟨h.n1.1,nw 1 l1,h.n1.2.2⟩,⟨h.nX.1,nw X lX,h.nX.2.2⟩⟩
theorem ExI.appD (h:ExI t H X w1 w2 w3 va vb vd vc A B D C) {v':AV} {H':Heap} {D':List (List UInt8)} (g:GrowV strF 1 H' v' D') (ha:After vd H v' H'):ExI t H' X w1 w2 w3 va vb v' vc A B D' C:=by
 obtain ⟨l0,l1,lX⟩:=h.lt;obtain ⟨d1,d2,d3,d4,d5,d6⟩:=h.dis;obtain ⟨b1,b2⟩:=ha.grow h.ga (fun id x y=>d2 id y x);obtain ⟨c1,c2⟩:=ha.grow h.gb (fun id x y=>d3 id y x);obtain ⟨e1,e2⟩:=After.own (β:=Int) ha h.oc d6;have nw:∀ id,id < H.nx->¬ Names v' id:=fun id hi hn=>by have:=ha.new id hn;omega
 exact ⟨by rw [ha.get 0 l0 h.n0.2.2.1];exact h.k0,by rw [ha.get 1 l1 h.n1.2.2.1];exact h.k1,by rw [ha.get X lX h.nX.2.2.1];exact h.kX,h.x2,b1,c1,g,e1,⟨d1,fun id x y=>b2 id y x,fun id x y=>c2 id y x,d4,d5,e2⟩,⟨h.n0.1,h.n0.2.1,nw 0 l0,h.n0.2.2.2⟩,⟨h.n1.1,h.n1.2.1,nw 1 l1,h.n1.2.2.2⟩,⟨h.nX.1,h.nX.2.1,nw X lX,h.nX.2.2.2⟩⟩
end
@[simp] theorem zoP {H:Heap} (x:PV):zH H 1 (.pure (.slice false 1 [[x]]))=some ([.pure x],1):=by simp [zH]
theorem zfy (b:List Box) (n:Nat):ptsE b (n+1)=ptsE b n++[exPt b n]:=by simp [ptsE,List.range_succ]
theorem zeP (h:List Span) (c:List Int) (n:Nat):htsE h c (n+1)=htsE h c n++[exHt h c n]:=by simp [htsE,List.range_succ]
theorem zgw (b:List Box) (m:Nat):exPt b (m+1)=⟨zbW b[m+1]!.x (exPt b m).x,zbW b[m+1]!.y (exPt b m).y⟩:=rfl
theorem zgi (h:List Span) (c:List Int) (m:Nat):exHt h c (m+1)=if c[m]! = 0 then min h[m+1]!.hi (exHt h c m) else h[m+1]!.hi:=rfl
theorem ze1 (t:List (List UInt8)) (n:Nat):letE t (n+1)=letE t n++[dotA t[n]!]:=by simp [letE,List.range_succ]
theorem sh8:G.shared 8=false:=by decide
theorem e8 (n:Nat) (l:Life) (c:Sl Int) (hs:zb8 l) (hc:c.xs.length < 1000):zK G (n+9) 8 [.agg l.cells,c.pv intF 1]=some (exE l c):=by
 refine zy (zx _) rfl g8 rfl ?_
 have htel:=fun H=>zi (G:=G) (n:=n+8) (H:=H) (caps:=[]) (ps:=[.agg l.cells,c.pv intF 1]) sh31 (e31 n l c hs hc);have hE:Hide (exE l c=if zW l c.xs=0 then (match zao l c.xs with
  | some t=>.tup [.agg (exV t c.xs l.sights.xs.length (zbo c)).cells,.int .i64 0]
  | none=>.tup [.agg [.nils,.nils,.nils,.nils],.int .i64 9]) else .tup [.agg [.nils,.nils,.nils,.nils],.int .i64 (zW l c.xs)]):=⟨rfl⟩
 generalize exE l c=P at *;simp only [Life.cells,List.map_cons,List.map_nil] at htel
 by_cases hg:zW l c.xs=0
 case neg =>
  have hP:P=.tup [.agg [.nils,.nils,.nils,.nils],.int .i64 (zW l c.xs)]:=by rw [hE.h,if_neg hg]
  have ht:zaX l c.xs=.tup [.agg [.nils,.nils,.nils],.int .i64 (zW l c.xs)]:=by unfold zaX;rw [if_neg hg]
  rw [ht] at htel;subst hP;clear hE ht;(repeat' first|simp [*,ze,c8,Life.cells]|(apply zb<;>intro _ h<;>try simp [-Nat.le_zero_eq] at h)|(show wpE 0 (zl ..) ..;refine zz ?_)|(refine zk fun v2 H2 hv2 hnx2 hget2 hnew2 hone2 hcel2=>?_))
 cases ht:zao l c.xs with
 | none =>
  have hP:P=.tup [.agg [.nils,.nils,.nils,.nils],.int .i64 9]:=by rw [hE.h,if_pos hg,ht]
  have ht2:zaX l c.xs=.tup [.agg [.nils,.nils,.nils],.int .i64 9]:=by unfold zaX;rw [if_pos hg,ht]
  rw [ht2] at htel;subst hP;clear hE ht ht2;(repeat' first|simp [*,ze,c8,Life.cells]|(apply zb<;>intro _ h<;>try simp [-Nat.le_zero_eq] at h)|(show wpE 0 (zl ..) ..;refine zz ?_)|(refine zk fun v2 H2 hv2 hnx2 hget2 hnew2 hone2 hcel2=>?_))
 | some t =>
  have hP:P=.tup [.agg (exV t c.xs l.sights.xs.length (zbo c)).cells,.int .i64 0]:=by rw [hE.h,if_pos hg,ht]
  have ht2:zaX l c.xs=.tup [.agg t.told.cells,.int .i64 0]:=by unfold zaX;rw [if_pos hg,ht]
  rw [ht2] at htel;have htp:=zk7 hg ht;have h1:=htp.right.one;have h9:=htp.right.nine;have hcl:=htp.len;have hPH:=Hide.mk hP;clear hE ht ht2 hP;have htc:t.told.cells=[(Sl.of t.boxes).pv Box.cells 4,(Sl.of t.heights).pv Span.cells 2,(Sl.of t.letters).pv strF 1]:=rfl;rw [htc] at htel;(repeat' first|simp [*,ze,c8,Life.cells]|(apply zb<;>intro _ h<;>try simp [-Nat.le_zero_eq] at h)|(show wpE 0 (zl ..) ..;refine zz ?_)|(refine zk fun v2 H2 hv2 hnx2 hget2 hnew2 hone2 hcel2=>?_))
  refine zeK (caps:=[]) zhQ ?_
  refine zfn (f:=intF) (sz:=1) (bytes:=8) (l:=c.xs) (b:=c.isNil) (fun _=>rfl) g32 (zfe (f:=intF) (sz:=1) (fun _=>rfl) _) (by simp) (fun h=>by cases c with|nil=>rfl|mk hh l=>simp [Sl.isNil] at h) (fun _=>rfl) (by decide) (fun _=>rfl) (by simp only [zq];omega) ?_
  intro vc H1 hvc hnil hnx hget hnew;have g0:=hget 0 (by simp);have g1:=hget 1 (by simp);simp at g0 g1 hnx;have hn0:¬ Names vc 0:=fun h=>by have:=hnew 0 h;simp at this
  have hn1:¬ Names vc 1:=fun h=>by have:=hnew 1 h;simp at this
  have hnX:¬ Names vc H1.nx:=fun h=>by have:=hvc.names_lt h;omega
  have hon:=hvc.one;have x0:¬ (0=H1.nx):=by omega
  have x1:¬ (1=H1.nx):=by omega
  have z0:0 < H1.nx+1:=by omega
  have z1:1 < H1.nx+1:=by omega
  have lt0:0 < H1.nx:=by omega
  have lt1:1 < H1.nx:=by omega
  have hbl:t.boxes.length=l.sights.xs.length:=by
   obtain ⟨X,Y,hX,hY,e⟩:=htp.x;have lX:X.length=l.sights.xs.length:=by simpa using hX.len
   have lY:Y.length=l.sights.xs.length:=by simpa using hY.len
   rw [e];simp;omega
  have hhl:t.heights.length=l.sights.xs.length:=by simpa using htp.h.len
  have hgl:(za2 l.sights.xs c.xs).length=c.xs.length:=by simp [za2,lets];omega
  have htl:t.letters.length=l.sights.xs.length:=by have:=htp.ls.len;omega
  have ht20:Hide (∀ i (h:i < t.letters.length),(t.letters[i]).length<=20):=⟨fun i h=>by
   have:patR t.letters[i]=true:=by
    cases i with
    | zero=>have:=(htp.ls.head 0 (by omega)).1;rwa [getElem!_pos _ 0 h] at this
    | succ i=>have:=(htp.ls.rest i (by omega)).1;rwa [Nat.add_comm 1 i,getElem!_pos _ (i+1) h] at this
   simp only [patR,Bool.and_eq_true,decide_eq_true_eq] at this;omega⟩
  clear hget hnew htel htp hs hgl;(repeat' first|simp [*,ze]|(apply zb<;>intro _ h<;>try simp [-Nat.le_zero_eq] at h)|(show wpE 0 (zl ..) ..;refine zz ?_)|(refine zk fun v2 H2 hv2 hnx2 hget2 hnew2 hone2 hcel2=>?_));have I1:ExI t (((H1.alloc (.cells true [.pure .nils,.pure .nils,.pure .nils,.pure .nils])).set H1.nx (.cells true [.pure .nils,.pure .nils,.pure .nils,vc]))) H1.nx (.pure .nils) (.pure .nils) (.pure .nils) (.pure .nils) (.pure .nils) (.pure .nils) vc [] [] [] c.xs:=by
   have hno:∀ id,¬ Names (.pure .nils) id:=fun id ⟨_,_,_,h⟩=>by simp at h
   refine ⟨by rw [zt (by omega),zA lt0];exact g0,by rw [zt (by omega),zA lt1];exact g1,z8 (by show H1.nx < H1.nx+1;omega),hnx,GrowV.nil,GrowV.nil,GrowV.nil,(hvc.alloc _).setO hnX _,⟨fun id h=>absurd h (hno id),fun id h=>absurd h (hno id),fun id h=>absurd h (hno id),fun id _=>hno id,fun id _=>hno id,fun id _=>hno id⟩,⟨hno _,hno _,hno _,hn0⟩,⟨hno _,hno _,hno _,hn1⟩,⟨hno _,hno _,hno _,hnX⟩⟩
  generalize hHB:((H1.alloc (.cells true [.pure .nils,.pure .nils,.pure .nils,.pure .nils])).set H1.nx (.cells true [.pure .nils,.pure .nils,.pure .nils,vc]))=HB at *
  refine zU [(10,13),(30,114)] (fun (s:Nat×AV×AV×AV) env2 H2=>env2 30=.pure (.int .i64 s.1)/\s.1<=l.sights.xs.length /\
   ExI t H2 H1.nx s.2.1 s.2.2.2 s.2.2.1 s.2.1 s.2.2.1 s.2.2.2 vc (ptsE t.boxes s.1) (htsE t.heights c.xs s.1) (letE t.letters s.1) c.xs) (fun s=>l.sights.xs.length - s.1) (0,.pure .nils,.pure .nils,.pure .nils) ?_ ?_ ?_ ?_
  ·decide
  ·exact ⟨by simp,by omega,I1⟩
  ·simp only [zN];omega
  clear I1 hHB hvc g0 g1 hn0 hn1 hnX;rintro ⟨j,va,vb,vd⟩ env2 H2 ⟨h30,hj,I⟩;simp only at h30 hj I;have hfit:j < 9223372036854775807:=by omega
  have k0:=I.k0;have k1:=I.k1;have kX:=I.kX;have x2:=I.x2;obtain ⟨m0,m1,mX⟩:=I.lt
  by_cases hlt:j < l.sights.xs.length
  case neg =>
   have hje:j=l.sights.xs.length:=by omega
   subst hje;have hltI:¬ ((l.sights.xs.length:Nat):Int) < l.sights.xs.length:=by omega
   have hne0:¬ (0=H2.nx):=by omega
   have hP4:P=.tup [.agg [(Sl.of (ptsE t.boxes l.sights.xs.length)).pv Pt.cells 2,(Sl.of (letE t.letters l.sights.xs.length)).pv strF 1,(Sl.of (htsE t.heights c.xs l.sights.xs.length)).pv intF 1,(zbo c).pv intF 1],.int .i64 0]:=hPH.h;have fa:FrzK (H2.set 0 (.cells true [va,vd,vb,vc])) false 11 (aggV [va,vd,vb,vc]) (.agg [(Sl.of (ptsE t.boxes l.sights.xs.length)).pv Pt.cells 2,(Sl.of (letE t.letters l.sights.xs.length)).pv strF 1,(Sl.of (htsE t.heights c.xs l.sights.xs.length)).pv intF 1,(zbo c).pv intF 1]) :=
    FrzK.aggV (.cons ((I.ga.set I.n0.1 _).res (fun _=>rfl)) (.cons ((I.gd.set I.n0.2.2.1 _).res (fun _=>rfl)) (.cons ((I.gb.set I.n0.2.1 _).res (fun _=>rfl)) (.cons (zjU (I.oc.setO I.n0.2.2.2 _) hnil) .nil))))
   obtain ⟨ids,hids⟩:=fa;have o1:=I.ga.1.one;have o2:=I.gb.1.one;have o3:=I.gd.1.one;have o4:=I.oc.one;clear I;(repeat' first|simp [*,ze]|(apply zb<;>intro _ h<;>try simp [-Nat.le_zero_eq] at h)|(show wpE 0 (zl ..) ..;refine zz ?_)|(refine zk fun v2 H2 hv2 hnx2 hget2 hnew2 hone2 hcel2=>?_))
  have hltI:(j:Int) < l.sights.xs.length:=by omega
  have hjb:j < t.boxes.length:=by omega
  have hjh:j < t.heights.length:=by omega
  have hjt:j < t.letters.length:=by omega
  have w1:IntKind.i64.wrap ((j:Int)+1)=(j+1:Nat):=by rw [wrap64 (by omega) (by omega)];omega
  have hrep:=fun H=>zi (G:=G) (n:=n+8) (H:=H) (caps:=[]) (ps:=[.str ⟨t.letters[j].toArray⟩,.str ⟨#[46]⟩,.str ⟨#[65]⟩]) zlG (zjM (n+7) t.letters[j] (ht20.h j hjt));simp only [List.map_cons,List.map_nil] at hrep;have IH:=Hide.mk I;have hva:=I.ga;have hvb:=I.gb;have hfa:=hva.1.fresh;have on1:=hva.1.one;have on2:=hvb.1.one;have on3:=I.gd.1.one;have hbe:=fun off=>ziD (off:=off) hva.1 I.nX.1;have lpa:=zgM t.boxes j;have lpb:=zgR t.heights c.xs j;have lpd:=zgL t.letters j;have hne0:¬ (0=H2.nx):=by omega
  have hne1:¬ (1=H2.nx):=by omega
  have hneX:¬ (H1.nx=H2.nx):=by omega
  have l0:0 < H2.nx+1:=by omega
  have l1:1 < H2.nx+1:=by omega
  have lX:H1.nx < H2.nx+1:=by omega
  have hne02:¬ (0=H2.nx+1):=by omega
  have hne12:¬ (1=H2.nx+1):=by omega
  have hneX2:¬ (H1.nx=H2.nx+1):=by omega
  have hnn:¬ (H2.nx=H2.nx+1):=by omega
  have l02:0 < H2.nx+1+1:=by omega
  have l12:1 < H2.nx+1+1:=by omega
  have lX2:H1.nx < H2.nx+1+1:=by omega
  clear I
  by_cases hj0:j=0
  ·have pz:¬ (0:Int) < j:=by omega
   have pz2:¬ 0 < j:=by omega
   have hj0H:=Hide.mk hj0;clear hj0;(repeat' first|simp [*,ze,zcy,chunks]|(apply zb<;>intro _ h<;>try simp [-Nat.le_zero_eq] at h)|(show wpE 0 (zl ..) ..;refine zz ?_)|(refine zk fun v2 H2 hv2 hnx2 hget2 hnew2 hone2 hcel2=>?_));have J1:=(((((IH.h.alloc _).setF ⟨by omega,by omega⟩ (IH.h.fresh (Nat.le_refl _)) _).alloc _).setF ⟨by omega,by omega⟩ (IH.h.fresh (Nat.le_succ _)) _).alloc _).appA hv2 ⟨hnx2,hget2,hnew2⟩;clear hv2 hnx2 hget2 hnew2 hva hvb hfa on1 on2 on3 hbe k0 k1 kX m0 m1 mX hne0 hne1 hneX l0 l1 lX hne02 hne12 hneX2 hnn l02 l12 lX2;have o1:=J1.ga.1.one;clear hone2 hcel2;generalize v2=v3 at *;generalize H2=H3 at *;have hvb:=J1.gb;have J1H:=Hide.mk J1;clear J1;(repeat' first|simp [*,ze,zcy,chunks]|(apply zb<;>intro _ h<;>try simp [-Nat.le_zero_eq] at h)|(show wpE 0 (zl ..) ..;refine zz ?_)|(refine zk fun v2 H2 hv2 hnx2 hget2 hnew2 hone2 hcel2=>?_));have J2:=J1H.h.appB hv2 ⟨hnx2,hget2,hnew2⟩;clear hv2 hnx2 hget2 hnew2 hvb J1H;have o2:=J2.gb.1.one;clear hone2 hcel2;generalize v2=v4 at *;generalize H2=H4 at *;have hvd:=J2.gd;have o3:=J2.gd.1.one;have k0:=J2.k0;have k1:=J2.k1;have kX:=J2.kX;obtain ⟨m0,m1,mX⟩:=J2.lt;have hfd:=J2.gd.1.fresh;have rX:=J2.nX.2.2.1;have J2H:=Hide.mk J2;clear J2;(repeat' first|simp [*,ze,zcy,chunks]|(apply zb<;>intro _ h<;>try simp [-Nat.le_zero_eq] at h)|(show wpE 0 (zl ..) ..;refine zz ?_)|(refine zk fun v2 H2 hv2 hnx2 hget2 hnew2 hone2 hcel2=>?_));have J3:=(((J2H.h.setX v3 vd vb).setX v3 vd v4).alloc _).appD hv2 ⟨hnx2,hget2,hnew2⟩;clear hv2 hnx2 hget2 hnew2 hvd J2H k0 k1 kX m0 m1 mX hfd rX o3;have o3:=J3.gd.1.one;clear hone2 hcel2;generalize v2=v5 at *;generalize H2=H5 at *;have kX:=J3.kX;obtain ⟨_,_,mX⟩:=J3.lt;have J3H:=Hide.mk J3;clear J3;have e1:ptsE t.boxes j++[⟨t.boxes[j].x.lo,t.boxes[j].y.lo⟩]=ptsE t.boxes (j+1):=by
    have:=hj0H.h;subst this;rw [zfy,exPt,getElem!_pos t.boxes 0 hjb]
   have e2:htsE t.heights c.xs j++[t.heights[j].hi]=htsE t.heights c.xs (j+1):=by
    have:=hj0H.h;subst this;rw [zeP,exHt,getElem!_pos t.heights 0 hjh]
   have e3:letE t.letters j++[dotA t.letters[j]]=letE t.letters (j+1):=by rw [ze1,getElem!_pos t.letters j hjt]
   have J4:=Hide.mk (J3H.h.setX v3 v5 v4);rw [e1,e2,e3] at J4;clear e1 e2 e3 J3H;(repeat' first|simp [*,ze]|(apply zb<;>intro _ h<;>try simp [-Nat.le_zero_eq] at h)|(show wpE 0 (zl ..) ..;refine zz ?_)|(refine zk fun v2 H2 hv2 hnx2 hget2 hnew2 hone2 hcel2=>?_));exact ⟨j+1,by omega,by simp,by omega,v3,v4,v5,J4.h⟩
  -- later
  obtain ⟨m,hjm⟩:∃ m,j=m+1:=⟨j - 1,by omega⟩
  have hjmH:=Hide.mk hjm;have pz:(0:Int) < j:=by omega
  have pz2:0 < j:=by omega
  have wj:IntKind.i64.wrap ((j:Int) - 1)=(m:Nat):=by rw [wrap64 (by omega) (by omega)];omega
  have hmc:m < c.xs.length:=by omega
  have lma:m < (ptsE t.boxes j).length:=by omega
  have lmb:m < (htsE t.heights c.xs j).length:=by omega
  have ada:=hva.1.addr (k:=.i64) lma;have adb:=hvb.1.addr (k:=.i64) lmb;have hga:=hva.1.objI (by omega);have hgb:=hvb.1.objI (by omega);have lta:=hva.1.ltI (by omega);have ltb:=hvb.1.ltI (by omega);have nea:¬ (idOf va=H2.nx):=by omega
  have neb:¬ (idOf vb=H2.nx):=by omega
  have nea2:¬ (idOf va=H2.nx+1):=by omega
  have neb2:¬ (idOf vb=H2.nx+1):=by omega
  have lta1:idOf va < H2.nx+1:=by omega
  have ltb1:idOf vb < H2.nx+1:=by omega
  have hpe:(ptsE t.boxes j)[m]=exPt t.boxes m:=by have:=zgZ (b:=t.boxes) (n:=j) (k:=m) (by omega);rwa [getElem!_pos _ m lma] at this
  have hhe:(htsE t.heights c.xs j)[m]=exHt t.heights c.xs m:=by have:=zg6 (h:=t.heights) (c:=c.xs) (n:=j) (k:=m) (by omega);rwa [getElem!_pos _ m lmb] at this
  have lx0:=ziA (own:=true) (f:=Pt.cells) (sz:=2) (l:=ptsE t.boxes j) (i:=m) (size:=1) (fun _=>rfl) lma (by decide);have ly0:=zhT (own:=true) (f:=Pt.cells) (sz:=2) (l:=ptsE t.boxes j) (i:=m) (size:=1) (off:=1) (fun _=>rfl) lma (by decide);have lh0:=zen (own:=true) (f:=intF) (l:=htsE t.heights c.xs j) (i:=m) (fun _=>rfl) lmb;rw [hpe] at lx0 ly0;rw [hhe] at lh0;simp only [Pt.cells,List.take_succ_cons,List.take_zero,List.drop_succ_cons,List.drop_zero,List.map_cons,List.map_nil,intF] at lx0 ly0 lh0;clear hpe hhe hj0 hjm lma lmb
  by_cases hc0:c.xs[m]=0
  ·(repeat' first|simp [*,ze,zcy,chunks]|(apply zb<;>intro _ h<;>try simp [-Nat.le_zero_eq] at h)|(show wpE 0 (zl ..) ..;refine zz ?_)|(refine zk fun v2 H2 hv2 hnx2 hget2 hnew2 hone2 hcel2=>?_));have J1:=((((((IH.h.alloc _).setF ⟨by omega,by omega⟩ (IH.h.fresh (Nat.le_refl _)) _).alloc _).setF ⟨by omega,by omega⟩ (IH.h.fresh (Nat.le_succ _)) _).setF ⟨by omega,by omega⟩ (IH.h.fresh (Nat.le_succ _)) _).alloc _).appA hv2 ⟨hnx2,hget2,hnew2⟩;clear hv2 hnx2 hget2 hnew2 hva hvb hfa on1 on2 on3 hbe ada adb hga hgb lta ltb nea neb nea2 neb2 lta1 ltb1 lx0 ly0 lh0 wj pz k0 k1 kX m0 m1 mX hne0 hne1 hneX l0 l1 lX hne02 hne12 hneX2 hnn l02 l12 lX2;have o1:=J1.ga.1.one;clear hone2 hcel2;generalize v2=v3 at *;generalize H2=H3 at *;have hvb:=J1.gb;have J1H:=Hide.mk J1;clear J1;(repeat' first|simp [*,ze,zcy,chunks]|(apply zb<;>intro _ h<;>try simp [-Nat.le_zero_eq] at h)|(show wpE 0 (zl ..) ..;refine zz ?_)|(refine zk fun v2 H2 hv2 hnx2 hget2 hnew2 hone2 hcel2=>?_));have J2:=J1H.h.appB hv2 ⟨hnx2,hget2,hnew2⟩;clear hv2 hnx2 hget2 hnew2 hvb J1H;have o2:=J2.gb.1.one;clear hone2 hcel2;generalize v2=v4 at *;generalize H2=H4 at *;have hvd:=J2.gd;have o3:=J2.gd.1.one;have k0:=J2.k0;have k1:=J2.k1;have kX:=J2.kX;obtain ⟨m0,m1,mX⟩:=J2.lt;have hfd:=J2.gd.1.fresh;have rX:=J2.nX.2.2.1;have J2H:=Hide.mk J2;clear J2;(repeat' first|simp [*,ze,zcy,chunks]|(apply zb<;>intro _ h<;>try simp [-Nat.le_zero_eq] at h)|(show wpE 0 (zl ..) ..;refine zz ?_)|(refine zk fun v2 H2 hv2 hnx2 hget2 hnew2 hone2 hcel2=>?_));have J3:=(((J2H.h.setX v3 vd vb).setX v3 vd v4).alloc _).appD hv2 ⟨hnx2,hget2,hnew2⟩;clear hv2 hnx2 hget2 hnew2 hvd J2H k0 k1 kX m0 m1 mX hfd rX o3;have o3:=J3.gd.1.one;clear hone2 hcel2;generalize v2=v5 at *;generalize H2=H5 at *;have kX:=J3.kX;obtain ⟨_,_,mX⟩:=J3.lt;have J3H:=Hide.mk J3;clear J3;have e1:ptsE t.boxes j++[⟨zbW t.boxes[j].x (exPt t.boxes m).x,zbW t.boxes[j].y (exPt t.boxes m).y⟩]=ptsE t.boxes (j+1):=by
    have:=hjmH.h;subst this;rw [zfy t.boxes (m+1),zgw,getElem!_pos t.boxes (m+1) hjb]
   have e2:htsE t.heights c.xs j++[min t.heights[j].hi (exHt t.heights c.xs m)]=htsE t.heights c.xs (j+1):=by
    have:=hjmH.h;subst this;rw [zeP t.heights c.xs (m+1),zgi,getElem!_pos t.heights (m+1) hjh,getElem!_pos c.xs m hmc,if_pos hc0]
   have e3:letE t.letters j++[dotA t.letters[j]]=letE t.letters (j+1):=by rw [ze1,getElem!_pos t.letters j hjt]
   have J4:=Hide.mk (J3H.h.setX v3 v5 v4);rw [e1,e2,e3] at J4;clear e1 e2 e3 J3H;(repeat' first|simp [*,ze]|(apply zb<;>intro _ h<;>try simp [-Nat.le_zero_eq] at h)|(show wpE 0 (zl ..) ..;refine zz ?_)|(refine zk fun v2 H2 hv2 hnx2 hget2 hnew2 hone2 hcel2=>?_));exact ⟨j+1,by omega,by simp,by omega,v3,v4,v5,J4.h⟩
  ·(repeat' first|simp [*,ze,zcy,chunks]|(apply zb<;>intro _ h<;>try simp [-Nat.le_zero_eq] at h)|(show wpE 0 (zl ..) ..;refine zz ?_)|(refine zk fun v2 H2 hv2 hnx2 hget2 hnew2 hone2 hcel2=>?_));have J1:=((((((IH.h.alloc _).setF ⟨by omega,by omega⟩ (IH.h.fresh (Nat.le_refl _)) _).alloc _).setF ⟨by omega,by omega⟩ (IH.h.fresh (Nat.le_succ _)) _).setF ⟨by omega,by omega⟩ (IH.h.fresh (Nat.le_succ _)) _).alloc _).appA hv2 ⟨hnx2,hget2,hnew2⟩;clear hv2 hnx2 hget2 hnew2 hva hvb hfa on1 on2 on3 hbe ada adb hga hgb lta ltb nea neb nea2 neb2 lta1 ltb1 lx0 ly0 lh0 wj pz k0 k1 kX m0 m1 mX hne0 hne1 hneX l0 l1 lX hne02 hne12 hneX2 hnn l02 l12 lX2;have o1:=J1.ga.1.one;clear hone2 hcel2;generalize v2=v3 at *;generalize H2=H3 at *;have hvb:=J1.gb;have J1H:=Hide.mk J1;clear J1;(repeat' first|simp [*,ze,zcy,chunks]|(apply zb<;>intro _ h<;>try simp [-Nat.le_zero_eq] at h)|(show wpE 0 (zl ..) ..;refine zz ?_)|(refine zk fun v2 H2 hv2 hnx2 hget2 hnew2 hone2 hcel2=>?_));have J2:=J1H.h.appB hv2 ⟨hnx2,hget2,hnew2⟩;clear hv2 hnx2 hget2 hnew2 hvb J1H;have o2:=J2.gb.1.one;clear hone2 hcel2;generalize v2=v4 at *;generalize H2=H4 at *;have hvd:=J2.gd;have o3:=J2.gd.1.one;have k0:=J2.k0;have k1:=J2.k1;have kX:=J2.kX;obtain ⟨m0,m1,mX⟩:=J2.lt;have hfd:=J2.gd.1.fresh;have rX:=J2.nX.2.2.1;have J2H:=Hide.mk J2;clear J2;(repeat' first|simp [*,ze,zcy,chunks]|(apply zb<;>intro _ h<;>try simp [-Nat.le_zero_eq] at h)|(show wpE 0 (zl ..) ..;refine zz ?_)|(refine zk fun v2 H2 hv2 hnx2 hget2 hnew2 hone2 hcel2=>?_));have J3:=(((J2H.h.setX v3 vd vb).setX v3 vd v4).alloc _).appD hv2 ⟨hnx2,hget2,hnew2⟩;clear hv2 hnx2 hget2 hnew2 hvd J2H k0 k1 kX m0 m1 mX hfd rX o3;have o3:=J3.gd.1.one;clear hone2 hcel2;generalize v2=v5 at *;generalize H2=H5 at *;have kX:=J3.kX;obtain ⟨_,_,mX⟩:=J3.lt;have J3H:=Hide.mk J3;clear J3;have e1:ptsE t.boxes j++[⟨zbW t.boxes[j].x (exPt t.boxes m).x,zbW t.boxes[j].y (exPt t.boxes m).y⟩]=ptsE t.boxes (j+1):=by
    have:=hjmH.h;subst this;rw [zfy t.boxes (m+1),zgw,getElem!_pos t.boxes (m+1) hjb]
   have e2:htsE t.heights c.xs j++[t.heights[j].hi]=htsE t.heights c.xs (j+1):=by
    have:=hjmH.h;subst this;rw [zeP t.heights c.xs (m+1),zgi,getElem!_pos t.heights (m+1) hjh,getElem!_pos c.xs m hmc,if_neg hc0]
   have e3:letE t.letters j++[dotA t.letters[j]]=letE t.letters (j+1):=by rw [ze1,getElem!_pos t.letters j hjt]
   have J4:=Hide.mk (J3H.h.setX v3 v5 v4);rw [e1,e2,e3] at J4;clear e1 e2 e3 J3H;(repeat' first|simp [*,ze]|(apply zb<;>intro _ h<;>try simp [-Nat.le_zero_eq] at h)|(show wpE 0 (zl ..) ..;refine zz ?_)|(refine zk fun v2 H2 hv2 hnx2 hget2 hnew2 hone2 hcel2=>?_));exact ⟨j+1,by omega,by simp,by omega,v3,v4,v5,J4.h⟩
end Go.Proofs.YtifmedfpnnfmoaaGreatDoor.Vm
