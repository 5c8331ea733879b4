/- slices.DeleteFunc of one element of numbers of one's own. search.Core: walked. Core: the specification's, walked. All$1: all solutions are gathered, by induction on the points that are left. search.All: walked. Every: the specification's, walked. -/
import Derived.Test.YtmghcpdpilgplaaGreatQk30
import Derived.Test.YtmghcpdpilgplaaGreatQk23
import Derived.KernelRfl
import Derived.Test.YtmghcpdpilgplaaGreatQk31
import Derived.Test.YtmghcpdpilgplaaGreatQk22
import Derived.Test.YtmghcpdpilgplaaGreatQk29
import Derived.Test.YtmghcpdpilgplaaGreatQk28
import Derived.Test.YtmghcpdpilgplaaGreatQk27
namespace Go.Proofs.YtmghcpdpilgplaaGreat.Vm
open Go
set_option linter.unusedSimpArgs false
set_option linter.unusedVariables false
set_option maxHeartbeats 4000000
set_option maxRecDepth 4000
theorem FrzK.func {H:Heap} {k:Bool} {n f:Nat} {cs:List AV} {ps:List PV} (h:FrzL H k n cs ps):FrzK H k (n+1) (.func f cs) (.func f ps):=by
 obtain ⟨ids,h⟩:=h;exact ⟨ids,by simp only [freeze,h]⟩
theorem HeadV.cells {l:List Int} {H:Heap} {v:AV} (h:HeadV intF 1 H v l):sliceCells H 1 v=some (rowOf intF l,l.length):=by
 obtain ⟨id,rest,rfl,hg⟩:=h;have hl:=rowOf_length (f:=intF) (sz:=1) (fun _=>rfl) l;rw [sliceCells_row,hg];simp only [rowCells];rw [if_pos (by rw [List.length_append];omega),Nat.zero_mul,List.drop_zero,← hl,List.take_left]
section
variable {α:Type} {f:α→List PV} {sz:Nat} {H:Heap} {l:List α}
theorem wpE_appendR {bytes id n:Nat} {b:AV} {m:List α} {k:AV→Heap→Prop} {u} (hid:H.get id=.cells true (rowOf f l)) (hn:n=l.length) (hf:∀ a,(f a).length=sz) (h0:0 < sz) (hone:∀ a,(f a).all PV.one=true)
  (hb:sliceCells H sz b=some (rowOf f m,m.length)) (hm:(l.length+m.length)*sz≤maxCells∧(l.length+m.length)*bytes≤maxCells)
  (hk:∀ j H',H'.get j=.cells true (rowOf f (l++m))→H.nx≤H'.nx→(∀ i,i < H.nx→i≠id→H'.get i=H.get i)→(j=id∨H.nx≤j)→k (.row j sz 0 (l++m).length) H'):wpE 0 (doAppend H sz bytes (.row id sz 0 n) b) H k u:=by
 subst hn;have ho:=rowOf_one' hone m;have hlen:=rowOf_length hf l;have hidn:=nx_of_get hid
 by_cases hm0:m.length=0
 ·have hl:m=[]:=List.eq_nil_of_length_eq_zero hm0;subst hl;have:doAppend H sz bytes (.row id sz 0 l.length) b=some (.upd (.row id sz 0 l.length) (H.set id (.cells true (rowOf f l)))):=by
   simp only [doAppend,hb,ho,hid,rowOf_nil];simp only [Bool.not_true,Bool.false_eq_true,if_false,if_true,List.all_nil,List.length_nil,Nat.add_zero,Nat.zero_mul,Nat.zero_add,List.append_nil];rw [if_pos (by rw [hlen];exact Nat.le_refl _),List.take_of_length_le (by rw [hlen];exact Nat.le_refl _),List.drop_eq_nil_of_le (by rw [hlen];exact Nat.le_refl _),List.append_nil]
  rw [this,wpE_upd];have hk':=hk id (H.set id (.cells true (rowOf f l))) (by rw [get_set_own hidn,List.append_nil]) (Nat.le_refl _) (fun i hi hn=>get_set_ne hn) (.inl rfl);rw [List.append_nil] at hk';exact hk'
 ·have hnot:¬ (0*sz+(l.length+m.length)*sz≤(rowOf f l).length):=by
   rw [hlen,Nat.add_mul];have:=Nat.mul_pos (Nat.pos_of_ne_zero hm0) h0;omega
  have:doAppend H sz bytes (.row id sz 0 l.length) b=some (.upd (.row H.nx sz 0 (l.length+m.length)) ((H.set id .dead).alloc (.cells true (rowOf f l++rowOf f m)))):=by
   simp only [doAppend,hb,ho,hid];simp only [Bool.not_true,Bool.false_eq_true,if_false,if_true];rw [if_neg hnot];simp only [true_and];rw [if_pos ⟨hlen.symm,hm⟩]
  rw [this,wpE_upd];have hnx:(H.set id .dead).nx=H.nx:=rfl;have hk':=hk H.nx ((H.set id .dead).alloc (.cells true (rowOf f l++rowOf f m))) (by rw [← hnx,get_alloc_nx,rowOf_append]) (Nat.le_succ _) (fun i hi hn=>by rw [get_alloc_lt (by exact hi),get_set_ne hn]) (.inr (Nat.le_refl _));rw [List.length_append] at hk';exact hk'
end
theorem sub_hi {s:Sl Int} {k:Nat}:(s.sub 0 k).xs=s.xs.take k:=by
 cases s<;>simp [Sl.sub]
theorem sub_lo {s:Sl Int} {k:Nat}:(s.sub k s.xs.length).xs=s.xs.drop k:=by
 cases s with
 | nil=>simp [Sl.sub]
 | mk b l =>
  simp only [Sl.sub,Sl.xs_mk];rw [List.take_length]
structure LeftV (H:Heap) (V:AV) (l:List Int) (S:Sl Int):Prop where
 len:lenSlV V=some (.val (.pure (.int .i64 l.length)))
 hi:∀ H' k,(∀ id,Names V id→H'.get id=H.get id)→k≤l.length→∃ b,sliceV H' 1 V none (some (.pure (.int .i64 (k:Nat))))=some (.val b)∧sliceCells H' 1 b=some (rowOf intF (l.take k),(l.take k).length)
 lo:∀ H' k,(∀ id,Names V id→H'.get id=H.get id)→k≤l.length→∃ b,sliceV H' 1 V (some (.pure (.int .i64 (k:Nat)))) none=some (.val b)∧sliceCells H' 1 b=some (rowOf intF (l.drop k),(l.drop k).length)
 lt:∀ id,Names V id→id < H.nx
 frz:∀ H',(∀ id,Names V id→H'.get id=H.get id)→FrzK H' false 11 V (S.pv intF 1)
theorem LeftV.keep {H H':Heap} {V:AV} {l:List Int} {S:Sl Int} (h:LeftV H V l S) (hs:∀ id,Names V id→H'.get id=H.get id) (hn:H.nx≤H'.nx):LeftV H' V l S :=
 ⟨h.len,fun H2 k h2=>h.hi H2 k fun id hi=>(h2 id hi).trans (hs id hi),fun H2 k h2=>h.lo H2 k fun id hi=>(h2 id hi).trans (hs id hi),fun id hi=>Nat.lt_of_lt_of_le (h.lt id hi) hn,fun H2 h2=>h.frz H2 fun id hi=>(h2 id hi).trans (hs id hi)⟩
theorem LeftV.pure {H:Heap} (s:Sl Int):LeftV H (.pure (s.pv intF 1)) s.xs s:=by
 refine ⟨by cases s<;>simp,fun H' k _ hk=>⟨_,sliceV_sl_hi hk,?_⟩,fun H' k _ hk=>⟨_,sliceV_sl_lo hk,?_⟩,fun id ⟨_,_,_,h⟩=>by simp at h,fun _ _=>.pure _⟩
 ·rw [sliceCells_sl' (f:=intF) (sz:=1) (fun _=>rfl),sub_hi]
 ·rw [sliceCells_sl' (f:=intF) (sz:=1) (fun _=>rfl),sub_lo]
theorem LeftV.row {H:Heap} {id m:Nat} {l:List Int} (hg:H.get id=.cells true (rowOf intF l)) (hm:m=l.length):LeftV H (.row id 1 0 m) l (.mk false l):=by
 subst hm;have hN:Names (.row id 1 0 l.length) id:=⟨_,_,_,rfl⟩
 refine ⟨rfl,fun H' k hs hk=>⟨_,sliceV_row_hi (by rw [hs id hN,hg];rfl) hk,row_take ((hs id hN).trans hg) hk⟩,fun H' k hs hk=>⟨_,sliceV_row_lo (by rw [hs id hN,hg];rfl) hk,?_⟩,fun j ⟨_,_,_,h⟩=>by simp at h;rw [← h.1];exact nx_of_get hg,fun H' hs=>row_res (n:=9) (fun _=>rfl) ((hs id hN).trans hg) rfl⟩
 by_cases hz:k≠0∧l.length=k
 ·rw [if_pos hz,List.drop_eq_nil_of_le (by omega)];rfl
 ·rw [if_neg hz,Nat.zero_add];exact row_drop ((hs id hN).trans hg) hk rfl
def solF (c:List Pt):List PV:=[(Sl.mk false c).pv Pt.cells 2]
theorem cloneP_call (n:Nat) (hot:Bool) (l:List Pt) (hl:l.length < 1000):callP G (n+1) 88 [(Sl.mk hot l).pv Pt.cells 2]=some ((Sl.mk false l).pv Pt.cells 2):=by
 by_cases h0:l=[]
 ·subst h0
  refine callP_of (ext_none _) rfl g88 rfl ?_
  have hb:vbin .eql .slice (.pure ((Sl.mk hot []).pv Pt.cells 2)) (.pure .nils)=some (.pure (.bool false)):=vbin_slNil rfl;have hsc:∀ Hx,sliceCells Hx 2 (.pure ((Sl.mk hot []).pv Pt.cells 2))=some (rowOf Pt.cells ([]:List Pt),([]:List Pt).length):=fun Hx=>sliceCells_sl' (f:=Pt.cells) (sz:=2) (fun _=>rfl) _;(repeat' first|simp [*,initEnv,c88]|(apply wpIf_two<;>intro _ h<;>try simp [-Nat.le_zero_eq] at h))
  refine wpE_appendR (f:=Pt.cells) (sz:=2) (l:=[]) (m:=[]) (id:=0) (by simp [rowOf_nil]) rfl (fun _=>rfl) (by decide) (fun _=>rfl) (hsc _) (by simp [maxCells]) ?_
  intro j H' hj hnx hs hjj;have hres:=Hide.mk (row_res (n:=10) (f:=Pt.cells) (sz:=2) (fun _=>rfl) hj rfl);clear hj hnx hs hjj hsc;(repeat' first|simp [*,initEnv]|(apply wpIf_two<;>intro _ h<;>try simp [-Nat.le_zero_eq] at h));exact hres.h
 ·exact e88 n hot l h0 hl
theorem sh_all:G.shared 87=true:=by decide
theorem all_leaf {n:Nat} {H:Heap} {lb ob pb pid m:Nat} {c1 c2 c3:AV} {l:Sl Box} {S:List (List Pt)} {c:List Pt} {V:AV} {k:AV→Heap→Prop} (ho:lb < ob∧ob < pid∧pid < pb) (hlb:H.get lb=.cells true [.pure (l.pv Box.cells 4)]) (hob:H.get ob=.cells true [V]) (hpb:H.get pb=.cells true [.row pid 2 0 m])
  (hp:H.get pid=.cells true (rowOf Pt.cells c)) (hm:c.length=m) (hc:l.xs.length=m) (hl:m≤12) (hV:GrowV solF 1 H V S) (hvb:∀ id,Names V id→pb < id) (hS:S.length < 1000000)
  (hk:∀ V' H',GrowV solF 1 H' V' (S++[c])→H'.get ob=.cells true [V']→H.nx≤H'.nx→(∀ j,j < H.nx→j≠ob→¬ Names V j→H'.get j=H.get j)→(∀ id,Names V' id→H.nx≤id)→k (.tup []) H') :
  ∃ v H',Vm.call G (n+2) (.fn 87) [.pure (.int .i64 m),.box lb 0,.box ob 0,.box pb 0,c1,c2,c3] H=some (v,H')∧k v H':=by
 refine call_of rfl g87 rfl ?_
 have hkH:=Hide.mk hk;have hVH:=Hide.mk hV;have hvbH:=Hide.mk hvb;have hone:=hV.1.one;have ho1:=hone.1;have ho2:=hone.2;have hcl:=cloneP_call n true c (by omega);have hobn:=nx_of_get hob;have hfr:=fun (H2:Heap) (h:H2.get pid=H.get pid)=>point_cl (m:=m) (h.trans hp) hm;have hclH:=Hide.mk hcl;have hfrH:=Hide.mk hfr;have hcold:=Hide.mk (cold_opt c);clear hk hV hvb hone hcl hfr;(repeat' first|simp [*,initEnv,c87]|(apply wpIf_two<;>intro _ h<;>try simp [-Nat.le_zero_eq] at h)|(show wpE 0 (doAppend ..) ..;refine wpE_appW ?_)|(refine after_intro fun v2 H2 hv2 hnx2 hget2 hnew2 hone2 hcel2=>?_))
 refine wpE_own (caps:=[]) sh88 (hfrH.h _ rfl) hclH.h hcold.h ?_
 (repeat' first|simp [*,initEnv]|(apply wpIf_two<;>intro _ h<;>try simp [-Nat.le_zero_eq] at h)|(show wpE 0 (doAppend ..) ..;refine wpE_appW ?_)|(refine after_intro fun v2 H2 hv2 hnx2 hget2 hnew2 hone2 hcel2=>?_))
 refine wpE_appendV (f:=solF) (sz:=1) (l:=S) (hVH.h.alloc _) (fun _=>rfl) (by decide) (fun _=>rfl) (by unfold maxCells;omega) ⟨c,by simp [solF],?_⟩
 intro V4 H4 hg4 ha;have hx4:=ha.nx;rw [nx_alloc] at hx4;have hg4o:H4.get ob=.cells true [V]:=by rw [ha.get ob (by rw [nx_alloc];omega) (fun hn=>by have:=hvbH.h ob hn;omega),get_alloc_lt hobn];exact hob
 have hsame:Hide (∀ j,j < H.nx→¬ Names V j→H4.get j=H.get j):=⟨fun j hj hn=>by rw [ha.get j (by rw [nx_alloc];omega) hn,get_alloc_lt hj]⟩
 have hnew:Hide (∀ id,Names V4 id→H.nx≤id):=⟨fun id hn=>by have:=ha.new id hn;rw [nx_alloc] at this;omega⟩
 have hg4H:=Hide.mk hg4;have o4:=hg4.1.one;have o4a:=o4.1;have o4b:=o4.2;have hob4:ob < H4.nx:=by omega
 clear hg4 ha o4;(repeat' first|simp [*,initEnv]|(apply wpIf_two<;>intro _ h<;>try simp [-Nat.le_zero_eq] at h)|(show wpE 0 (doAppend ..) ..;refine wpE_appW ?_)|(refine after_intro fun v2 H2 hv2 hnx2 hget2 hnew2 hone2 hcel2=>?_));exact hkH.h V4 _ (hg4H.h.set (fun hn=>by have:=hnew.h ob hn;omega) _) (get_set_own hob4) (by rw [nx_set];omega) (fun j h1 h2 h3=>by rw [get_set_ne h2];exact hsame.h j h1 h3) hnew.h
structure AllI where
 lb:Nat
 ob:Nat
 pid:Nat
 pb:Nat
 hid:Nat
 hb:Nat
 cb:Nat
def capsA (I:AllI) (p:Problem):List AV:=[.box I.lb 0,.box I.ob 0,.box I.pb 0,.box I.hb 0,.pure (.ptr false p.cells 0),.box I.cb 0]
structure AllFix (I:AllI) (p:Problem) (l:Sl Box) (H:Heap):Prop where
 ord:I.lb < I.ob∧I.ob < I.pid∧I.pid < I.pb∧I.pb < I.hid∧I.hid < I.hb∧I.hb < I.cb
 lb:H.get I.lb=.cells true [.pure (l.pv Box.cells 4)]
 pb:H.get I.pb=.cells true [.row I.pid 2 0 l.xs.length]
 hb:H.get I.hb=.cells true [.row I.hid 4 0 l.xs.length]
 cb:H.get I.cb=.cells true [.func 87 (capsA I p)]
structure KeepA (I:AllI) (V:AV) (H:Heap) (V':AV) (H':Heap):Prop where
 nx:H.nx≤H'.nx
 get:∀ j,j < H.nx→j≠I.ob→j≠I.pid→j≠I.hid→¬ Names V j→H'.get j=H.get j
 nm:∀ id,Names V' id→Names V id∨H.nx≤id
theorem KeepA.refl (I:AllI) (V:AV) (H:Heap):KeepA I V H V H:=⟨Nat.le_refl _,fun _ _ _ _ _ _=>rfl,fun _ h=>.inl h⟩
theorem KeepA.trans {I:AllI} {V V1 V2:AV} {H H1 H2:Heap} (h:KeepA I V H V1 H1) (h':KeepA I V1 H1 V2 H2):KeepA I V H V2 H2 :=
 ⟨Nat.le_trans h.nx h'.nx,fun j a b c d e=>(h'.get j (by have:=h.nx;omega) b c d (fun hn=>by
  rcases h.nm j hn with hn|hn
  ·exact e hn
  ·omega)).trans (h.get j a b c d e),fun id hn=>by
  rcases h'.nm id hn with hn|hn
  ·exact h.nm id hn
  ·exact .inr (Nat.le_trans h.nx hn)⟩
section
variable {I:AllI} {p:Problem} {l:Sl Box} {H H':Heap} {V V':AV}
theorem AllFix.lt (h:AllFix I p l H):I.cb < H.nx:=nx_of_get h.cb
theorem AllFix.keep (h:AllFix I p l H) (k:KeepA I V H V' H') (hv:∀ id,Names V id→I.cb < id):AllFix I p l H':=by
 have hlt:=h.lt;have o:=h.ord;have g:∀ j,j≤I.cb→j≠I.ob→j≠I.pid→j≠I.hid→H'.get j=H.get j:=fun j a b c d=>k.get j (by omega) b c d fun hn=>by have:=hv j hn;omega
 refine ⟨o,?_,?_,?_,?_⟩
 ·rw [g _ (by omega) (by omega) (by omega) (by omega)];exact h.lb
 ·rw [g _ (by omega) (by omega) (by omega) (by omega)];exact h.pb
 ·rw [g _ (by omega) (by omega) (by omega) (by omega)];exact h.hb
 ·rw [g _ (by omega) (by omega) (by omega) (by omega)];exact h.cb
end
structure AllSt (I:AllI) (m:Nat) (S:List (List Pt)) (pts:List Pt) (here:List Box) (V:AV) (H:Heap):Prop where
 o:H.get I.ob=.cells true [V]
 v:GrowV solF 1 H V S
 vb:∀ id,Names V id→I.cb < id
 p:H.get I.pid=.cells true (rowOf Pt.cells pts)
 h:H.get I.hid=.cells true (rowOf Box.cells here)
 pts:okC m pts
theorem AllSt.keep {I:AllI} {m:Nat} {S:List (List Pt)} {pts:List Pt} {here:List Box} {V:AV} {H H':Heap} (st:AllSt I m S pts here V H) (g:∀ j,j < H.nx→(j=I.ob∨j=I.pid∨j=I.hid∨Names V j)→H'.get j=H.get j):AllSt I m S pts here V H' :=
 ⟨(g _ (nx_of_get st.o) (.inl rfl)).trans st.o,⟨st.v.1.keep fun id ⟨n,hn⟩=>g id (st.v.1.names_lt ⟨_,_,_,hn⟩) (.inr (.inr (.inr ⟨_,_,_,hn⟩))),st.v.2⟩,st.vb,(g _ (nx_of_get st.p) (.inr (.inl rfl))).trans st.p,(g _ (nx_of_get st.h) (.inr (.inr (.inl rfl)))).trans st.h,st.pts⟩
theorem bad_okT {fs:List Fact} {k:Nat} {here:List Box}:badI fs here (aboutL fs (natsL fs.length) k) < 0↔okT fs k here=true:=by
 have hnn:∀ i∈aboutL fs (natsL fs.length) k,0≤i:=fun i hi=>by
  have:=(List.mem_filter.1 hi).1;unfold natsL at this;obtain ⟨j,_,rfl⟩:=List.mem_map.1 this;omega
 have h:=badI_nn (fs:=fs) (l:=here) hnn;unfold okT;rw [List.all_eq_true]
 constructor
 ·intro hb f hf
  cases hn:namesB f k with
  | false=>rfl
  | true =>
   cases hs:failsS f here with
   | false=>rfl
   | true =>
    exfalso;obtain ⟨j,hj,e⟩:=List.getElem_of_mem hf;have hm:(j:Int)∈aboutL fs (natsL fs.length) k:=by
     unfold aboutL;rw [List.mem_filter]
     refine ⟨List.mem_map.2 ⟨j,List.mem_range.2 hj,rfl⟩,?_⟩
     rw [Int.toNat_natCast,getElem!_pos fs j hj,e];exact hn
    have:=h.2 ⟨_,hm,by rw [Int.toNat_natCast,getElem!_pos fs j hj,e];exact hs⟩;omega
 ·intro hall;rcases Int.lt_or_le (badI fs here (aboutL fs (natsL fs.length) k)) 0 with hlt|hge
  ·exact hlt
  ·exfalso;obtain ⟨i,hi,hs⟩:=h.1 hge;have hi2:=List.mem_filter.1 hi;unfold natsL at hi2;obtain ⟨j,hj,rfl⟩:=List.mem_map.1 hi2.1;have hj:=List.mem_range.1 hj;have h2:=hi2.2;rw [Int.toNat_natCast,getElem!_pos fs j hj] at h2 hs;have:=hall _ (List.getElem_mem hj);rw [h2,hs] at this;simp at this
structure AllP (p:Problem) (l:Sl Box):Prop where
 ok:CheckOk p
 sub:SubL l.xs p.boxes.xs
 wf:Wf l.xs
 few:l.xs.length≤12
def AllOut (I:AllI) (p:Problem) (l:Sl Box) (kk:Nat) (S:List (List Pt)) (pts:List Pt) (here:List Box) (V:AV) (H:Heap) (H':Heap):Prop :=
 ∃ V' pts',KeepA I V H V' H'∧AllSt I l.xs.length (S++(enumC (okT p.facts.xs) l.xs ((List.range l.xs.length).drop kk) kk here).map (pts.take kk ++ ·)) pts' here V' H'∧pts'.take kk=pts.take kk
theorem all_call {I:AllI} {p:Problem} {l:Sl Box} (hp:AllP p l) :
  ∀ (d n kk:Nat) (H:Heap) (S:List (List Pt)) (pts:List Pt) (here:List Box) (V:AV),kk+d=l.xs.length→AllFix I p l H→AllSt I l.xs.length S pts here V H→SubL here l.xs→Wf here →
   (∀ j (h:j < l.xs.length),kk≤j→here[j]! = l.xs[j])→S.length+(enumC (okT p.facts.xs) l.xs ((List.range l.xs.length).drop kk) kk here).length < 1000000 →
   ∃ H',Vm.call G (n+8+3*d) (.fn 87) ([.pure (.int .i64 kk)]++capsA I p) H=some (.tup [],H')∧AllOut I p l kk S pts here V H H':=by
 intro d
 induction d with
 | zero =>
  intro n kk H S pts here V hkk fx st hs hw hl hn;have ek:kk=l.xs.length:=by omega
  subst ek;have edr:(List.range l.xs.length).drop l.xs.length=[]:=List.drop_of_length_le (by simp);rw [edr] at hn;simp only [enumC,List.length_cons,List.length_nil] at hn;have o:=fx.ord;have key:=all_leaf (n:=n+6) (H:=H) (lb:=I.lb) (ob:=I.ob) (pb:=I.pb) (pid:=I.pid) (c1:=.box I.hb 0) (c2:=.pure (.ptr false p.cells 0)) (c3:=.box I.cb 0) (l:=l) (S:=S) (c:=pts) (V:=V)
   (k:=fun v H'=>v=.tup []∧AllOut I p l l.xs.length S pts here V H H') ⟨by omega,by omega,by omega⟩ fx.lb st.o fx.pb st.p st.pts.1 rfl hp.few st.v (fun id hn=>by have:=st.vb id hn;omega) (by omega) ?_
  ·obtain ⟨v,H',h1,rfl,h2⟩:=key;exact ⟨H',h1,h2⟩
  ·intro V' H' h1 h2 h3 h4 h5;have hlt:=fx.lt;have e1:pts.take l.xs.length=pts:=List.take_of_length_le (by rw [st.pts.1];exact Nat.le_refl _)
   refine ⟨rfl,V',pts,⟨h3,fun j a b c d e=>h4 j a b e,fun id hn=>.inr (h5 id hn)⟩,?_,rfl⟩
   rw [edr];simp only [enumC,List.map_cons,List.map_nil,List.append_nil,e1]
   refine ⟨h2,h1,fun id hn=>by have:=h5 id hn;omega,?_,?_,st.pts⟩
   ·rw [h4 _ (nx_of_get st.p) (by omega) (fun hn=>by have:=st.vb _ hn;omega)];exact st.p
   ·rw [h4 _ (nx_of_get st.h) (by omega) (fun hn=>by have:=st.vb _ hn;omega)];exact st.h
 | succ d ih =>
  intro n kk H S pts here V hkk fx st hs hw hl hn;have hk:kk < l.xs.length:=by omega
  have fu:n+8+3*(d+1)=n+8+3*d+2+1:=by omega
  rw [fu];obtain ⟨F,hF⟩:∃ F,F=n+8+3*d:=⟨_,rfl⟩
  have hF6:∃ F6,F=F6+6:=⟨n+2+3*d,by omega⟩
  have main:∃ v H',Vm.call G (F+2+1) (.fn 87) ([.pure (.int .i64 kk)]++capsA I p) H=some (v,H')∧(v=.tup []∧AllOut I p l kk S pts here V H H'):=by
   refine call_of rfl g87 rfl ?_
   have hne:¬ (kk:Int)=l.xs.length:=by omega
   have hkI:(kk:Int) < l.xs.length:=by omega
   have hB:=fun H=>call_pureC (G:=G) (n:=F+2) (H:=H) (caps:=[]) (ps:=[.agg l.xs[kk].cells]) sh89 (e89 (F+1) l.xs[kk]);simp only [Box.cells,Span.cells,List.map_cons,List.map_nil] at hB;have hrest:(List.range l.xs.length).drop kk=kk::(List.range l.xs.length).drop (kk+1):=by
    rw [List.drop_eq_getElem_cons (by rw [List.length_range];exact hk),List.getElem_range]
   rw [hrest] at hn;have hhq:here[kk]! = l.xs[kk]:=hl kk hk (Nat.le_refl _);have hlen:here.length=l.xs.length:=hs.1;have hqh:kk < here.length:=by omega
   have hset:here.set kk l.xs[kk]=here:=by
    rw [← hhq,getElem!_pos here kk hqh];exact List.set_getElem_self ..
   have hlt:=fx.lt;have o:=fx.ord;obtain ⟨hN,hhN⟩:∃ hN,hN=(l.xs[kk].y.hi - l.xs[kk].y.lo+1).toNat:=⟨_,rfl⟩
   obtain ⟨wN,hwN⟩:∃ wN,wN=(l.xs[kk].x.hi - l.xs[kk].x.lo+1).toNat:=⟨_,rfl⟩
   have hpl:(placesB l.xs[kk]!).length=wN*hN:=by rw [getElem!_pos l.xs kk hk,places_length,← hhN,← hwN]
   obtain ⟨E,hE⟩:∃ E:Nat→List (List Pt),E=fun t=>S++(enumTo (okT p.facts.xs) l.xs kk ((List.range l.xs.length).drop (kk+1)) kk here t).map (pts.take kk ++ ·):=⟨_,rfl⟩
   have hE0:E 0=S:=by rw [hE];simp [enumTo_zero]
   have hEw:Hide (E (wN*hN)=S++(enumC (okT p.facts.xs) l.xs ((List.range l.xs.length).drop kk) kk here).map (pts.take kk ++ ·)):=⟨by
    rw [hE,hrest];simp only;rw [enumTo_all _ _ _ _ _ _ (by rw [hpl];exact Nat.le_refl _)]⟩
   have hEn:Hide (∀ t X,(placesB l.xs[kk]!)[t]?=some X→E (t+1)=if okT p.facts.xs kk (here.set kk (atB X))=true then E t++(enumC (okT p.facts.xs) l.xs ((List.range l.xs.length).drop (kk+1)) (kk+1) (here.set kk (atB X))).map ((pts.take kk++[X]) ++ ·) else E t):=⟨fun t X hX=>by
    rw [hE];simp only;rw [enumTo_next _ _ _ _ _ _ hX]
    by_cases hc:okT p.facts.xs kk (here.set kk (atB X))=true
    ·rw [if_pos hc,if_pos hc,List.map_append,List.append_assoc,List.map_map]
     congr 3
     funext c
     simp
    ·rw [if_neg hc,if_neg hc];simp⟩
   have hEc:Hide (∀ t X,(placesB l.xs[kk]!)[t]?=some X→okT p.facts.xs kk (here.set kk (atB X))=true→(E t).length+(enumC (okT p.facts.xs) l.xs ((List.range l.xs.length).drop (kk+1)) (kk+1) (here.set kk (atB X))).length < 1000000):=⟨fun t X hX hc=>by
    have h1:=enumTo_next (okT p.facts.xs) l.xs kk ((List.range l.xs.length).drop (kk+1)) kk here hX;have h2:=enumTo_le (okT p.facts.xs) l.xs kk ((List.range l.xs.length).drop (kk+1)) kk here (t+1);rw [h1,if_pos hc,List.length_append,List.length_map] at h2;rw [hE];simp only;rw [List.length_append,List.length_map];omega⟩
   have hEH:=Hide.mk hE;have hnH:=Hide.mk hn;have hlH:=Hide.mk hl;have hhNH:=Hide.mk hhN;have hwNH:=Hide.mk hwN;have hrestH:=Hide.mk hrest;have ihH:=Hide.mk ih;have hFH:=Hide.mk hF;have lb1:=fx.lb;have hb1':=fx.hb;have fxH:=Hide.mk fx;clear hE hn hl hrest ih hF;(repeat' first|simp [*,initEnv,c87,capsA]|(apply wpIf_two<;>intro _ h<;>try simp [-Nat.le_zero_eq] at h))
   refine wp_places (n:=F) (b:=l.xs[kk]) (valid_sub hp.ok hp.sub hp.wf _ (List.getElem_mem hk)) ?_ rfl
    (fun i k H1=>∃ V1 y pts',KeepA I V H V1 H1∧AllSt I l.xs.length (E (i*hN+k)) pts' (here.set kk y) V1 H1∧pts'.take kk=pts.take kk∧¬ Names V1 H.nx) ?_ ?_ ?_ ?_ ?_
   ·simp
   ·rintro i k H1 H2 ⟨V1,y,pts',a1,a2,a3,a4⟩ hx hnx hg
    refine ⟨V1,y,pts',⟨by rw [hnx];exact a1.nx,fun j h1 h2 h3 h4 h5=>by rw [hg j (by omega)];exact a1.get j h1 h2 h3 h4 h5,a1.nm⟩,a2.keep fun j h1 h2=>hg j ?_,a3,a4⟩
    rcases h2 with h2|h2|h2|h2
    ·omega
    ·omega
    ·omega
    ·exact fun e=>a4 (e ▸ h2)
   ·intro H1 hnx hg
    refine ⟨V,l.xs[kk],pts,⟨by omega,fun j h1 _ _ _ _=>hg j h1,fun _ h=>.inl h⟩,?_,rfl,fun h=>by have:=st.v.1.names_lt h;omega⟩
    rw [hset,Nat.zero_mul,Nat.zero_add,hE0];exact st.keep fun j h1 _=>hg j h1
   ·intro i H1 h;rw [← hhN] at h;rwa [show (i+1)*hN+0=i*hN+hN by rw [Nat.add_mul];omega]
   ·rw [← hhN,← hwN];rintro i k H1 hi hkk' ⟨V1,y,pts',kp,st1,hpt,hnn⟩ hx;obtain ⟨hT,hXe⟩:=placesB_at (b:=l.xs[kk]) (i:=i) (k:=k) (by rw [← hwN];exact hi) (by rw [← hhN];exact hkk');have hTx:(placesB l.xs[kk]!)[i*hN+k]?=some ⟨l.xs[kk].x.lo+i,l.xs[kk].y.lo+k⟩:=by
     rw [getElem!_pos l.xs kk hk,hhN,List.getElem?_eq_getElem hT,hXe]
    have hXp:inB' ⟨l.xs[kk].x.lo+i,l.xs[kk].y.lo+k⟩ l.xs[kk]:=mem_places.1 (by rw [← hXe];exact List.getElem_mem _);have hXo:okP ⟨l.xs[kk].x.lo+i,l.xs[kk].y.lo+k⟩:=by
     have hv:=valid_iff.1 (valid_sub hp.ok hp.sub hp.wf _ (List.getElem_mem hk));unfold inB' at hXp;unfold okP;simp only at hXp ⊢;omega
    obtain ⟨u,hu⟩:∃ u,u=l.xs[kk].x.lo+(i:Int):=⟨_,rfl⟩
    obtain ⟨v,hv⟩:∃ v,v=l.xs[kk].y.lo+(k:Int):=⟨_,rfl⟩
    rw [← hu,← hv] at hTx hXp hXo ⊢;obtain ⟨t,ht⟩:∃ t,t=i*hN+k:=⟨_,rfl⟩
    have ht1:i*hN+(k+1)=t+1:=by omega
    rw [ht1];rw [← ht] at st1 hTx;have hEt:=hEn.h t _ hTx;have hEc1:=hEc.h t _ hTx;have hEtH:=Hide.mk hEt;have hEcH:=Hide.mk hEc1;have hst1:=Hide.mk st1;have hkp:=Hide.mk kp;have hptH:=Hide.mk hpt;have hnnH:=Hide.mk hnn;have hXpH:=Hide.mk hXp;have hXoH:=Hide.mk hXo;clear st1 hpt hpl hE0 hT hXe hTx hu hv ht ht1 hEn hEt hEc1 hEc kp hnn hXp hXo;(repeat' first|simp [*,initEnv]|(apply wpIf_two<;>intro _ h<;>try simp [-Nat.le_zero_eq] at h))
    refine ⟨fun j hj=>(get_set_ne (show j≠H1.nx by omega)).trans (get_alloc_lt hj),?_⟩
    intro Hb hbn hbg;have hgo:∀ j,j < H1.nx→j≠H.nx→Hb.get j=H1.get j:=fun j hj h2=>by rw [hbg j h2,get_set_ne (by omega),get_alloc_lt hj]
    have hnew:Hb.get H1.nx=.cells true [.pure (.int .i64 u),.pure (.int .i64 v)]:=by rw [hbg _ (by omega),get_set_own (by simp)]
    have hbn':Hb.nx=H1.nx+1:=by simpa using hbn
    have hkx:H.nx≤H1.nx:=hkp.h.nx;have kpb:KeepA I V H V1 Hb:=⟨by omega,fun j a b c e f=>by rw [hgo j (by omega) (by omega)];exact hkp.h.get j a b c e f,hkp.h.nm⟩
    have stb:AllSt I l.xs.length (E t) pts' (here.set kk y) V1 Hb:=hst1.h.keep fun j h1 h2=>hgo j h1 (by
     rcases h2 with h2|h2|h2|h2
     ·omega
     ·omega
     ·omega
     ·exact fun e=>hnnH.h (e ▸ h2))
    have fxb:=fxH.h.keep kpb st.vb;have hb1:=fxb.hb;have pb1:=fxb.pb;have lb2:=fxb.lb;have cb1:=fxb.cb;have hh1:=stb.h;have hp1:=stb.p;have hsl:kk < (here.set kk y).length:=by simpa using hqh
    have hss:(here.set kk y).set kk (atB ⟨u,v⟩)=here.set kk (atB ⟨u,v⟩):=by rw [List.set_set]
    have hput:=putIn_rowG (f:=Box.cells) (sz:=4) (a:=atB ⟨u,v⟩) (fun _=>rfl) (fun _=>rfl) (by decide) hsl;rw [hss] at hput;have hptl:kk < pts'.length:=by rw [hst1.h.pts.1];exact hk
    have hput2:=putIn_rowG (f:=Pt.cells) (sz:=2) (a:=(⟨u,v⟩:Pt)) (fun _=>rfl) (fun _=>rfl) (by decide) hptl;simp only [Box.cells,Span.cells,Pt.cells,atB,List.map_cons,List.map_nil] at hput hput2;have nf:=hp.ok.nf;have hat:=fun H=>call_pureC (G:=G) (n:=F) (H:=H) (caps:=[]) (ps:=[.agg (Pt.mk u v).cells]) sh90 (by
     obtain ⟨F6,rfl⟩:=hF6;exact e90 (F6+5) ⟨u,v⟩)
    have hall:=fun H=>call_pureC (G:=G) (n:=F) (H:=H) (caps:=[]) (ps:=[p.facts.pv Fact.cells 9]) sh93 (by
     obtain ⟨F6,rfl⟩:=hF6;exact e93 (F6+5) p.facts (by omega))
    have hnats:okIs p.facts.xs (natsL p.facts.xs.length):=fun i hi=>by
     unfold natsL at hi;obtain ⟨j,hj,rfl⟩:=List.mem_map.1 hi;have:=List.mem_range.1 hj;omega
    have habo:=fun H=>call_pureC (G:=G) (n:=F) (H:=H) (caps:=[]) (ps:=[p.facts.pv Fact.cells 9,(Sl.mk false (natsL p.facts.xs.length)).pv intF 1,.int .i64 kk]) sh92 (by
     obtain ⟨F6,rfl⟩:=hF6;exact e92 (F6+4) p.facts (Sl.mk false (natsL p.facts.xs.length)) kk (by rw [Sl.xs_mk];exact hnats) (by rw [Sl.xs_mk,natsL_length];omega))
    have hais:okIs p.facts.xs (aboutL p.facts.xs (natsL p.facts.xs.length) kk):=fun i hi=>hnats i (List.mem_filter.1 hi).1;have hail:(aboutL p.facts.xs (natsL p.facts.xs.length) kk).length < 1000:=by
     have:=List.length_filter_le (fun i:Int=>namesB p.facts.xs[i.toNat]! kk) (natsL p.facts.xs.length);rw [natsL_length] at this;unfold aboutL;omega
    simp only [Sl.xs_mk,Box.cells,Span.cells,Pt.cells,atB,List.map_cons,List.map_nil] at hat hall habo;obtain ⟨N0,hN0⟩:∃ s,Sl.mk false (natsL p.facts.xs.length)=s:=⟨_,rfl⟩
    obtain ⟨A0,hA0⟩:∃ s,Sl.of (aboutL p.facts.xs (natsL p.facts.xs.length) kk)=s:=⟨_,rfl⟩
    rw [hN0] at hall habo;rw [hA0] at habo;have hA0x:A0.xs=aboutL p.facts.xs (natsL p.facts.xs.length) kk:=by rw [← hA0,Sl.xs_of]
    have q1:I.pb≠I.hid:=by omega
    have q2:H1.nx≠I.hid:=by omega
    have q3:I.hb≠I.hid:=by omega
    have q4:I.hb≠I.pid:=by omega
    have q9:I.pid≠I.hid:=by omega
    have q10:I.cb≠I.hid:=by omega
    have q11:I.cb≠I.pid:=by omega
    have q12:I.hid≠I.pid:=by omega
    have r1:I.hid < Hb.nx:=by omega
    have r2:I.pid < Hb.nx:=by omega
    have hbgH:=Hide.mk hbg;have hgoH:=Hide.mk hgo;have kpbH:=Hide.mk kpb;have stbH:=Hide.mk stb;have haisH:=Hide.mk hais;have hailH:=Hide.mk hail;have hA0H:=Hide.mk hA0x;clear hbg hgo hsl hss kpb stb hnats hais hail hN0 hA0 hA0x fxb;(repeat' first|simp [*,initEnv,beside]|(apply wpIf_two<;>intro _ h<;>try simp [-Nat.le_zero_eq] at h));obtain ⟨here1,hh1e⟩:∃ h1,h1=here.set kk (atB ⟨u,v⟩):=⟨_,rfl⟩
    obtain ⟨pts1,hp1e⟩:∃ p1,p1=pts'.set kk ⟨u,v⟩:=⟨_,rfl⟩
    have hh1e':here.set kk ⟨⟨u,u⟩,⟨v,v⟩⟩=here1:=hh1e.symm;rw [hh1e',← hp1e];obtain ⟨Hc,hHc⟩:∃ Hc,Hc=(Hb.set I.hid (.cells true (rowOf Box.cells here1))).set I.pid (.cells true (rowOf Pt.cells pts1)):=⟨_,rfl⟩
    rw [← hHc];have hcn:Hc.nx=Hb.nx:=by rw [hHc];simp
    have hcg:∀ j,j≠I.hid→j≠I.pid→Hc.get j=Hb.get j:=fun j h1 h2=>by rw [hHc,get_set_ne h2,get_set_ne h1]
    have hch:Hc.get I.hid=.cells true (rowOf Box.cells here1):=by rw [hHc,get_set_ne (by omega),get_set_own (by omega)]
    have hcp:Hc.get I.pid=.cells true (rowOf Pt.cells pts1):=by rw [hHc,get_set_own (by simpa using r2)]
    have kpc:KeepA I V H V1 Hc:=⟨by omega,fun j a b c e f=>by rw [hcg j e c];exact kpbH.h.get j a b c e f,kpbH.h.nm⟩
    have fxc:=fxH.h.keep kpc st.vb;have hs1:SubL here1 l.xs:=by
     have hXp:=hXpH.h;have:=hs.set (i:=kk) (a:=atB ⟨u,v⟩) (b:=l.xs[kk]) (by
      unfold inB' at hXp;simp only at hXp;exact ⟨⟨hXp.1,hXp.2.1⟩,⟨hXp.2.2.1,hXp.2.2.2⟩⟩)
     rw [List.set_getElem_self] at this;rw [hh1e];exact this
    have hw1:Wf here1:=by
     rw [hh1e];exact hw.set ⟨Int.le_refl _,Int.le_refl _⟩
    have hs1p:SubL here1 p.boxes.xs:=hs1.trans hp.sub;have hl1:here1.length=l.xs.length:=hs1.1;obtain ⟨s1,hs1x,hf1⟩:=row_sl (n:=10) (f:=Box.cells) (sz:=4) (fun _=>rfl) hch hl1;have hbad:callP G F 91 [p.facts.pv Fact.cells 9,A0.pv intF 1,s1.pv Box.cells 4]=some (.int .i64 (badI p.facts.xs here1 (aboutL p.facts.xs (natsL p.facts.xs.length) kk))):=by
     obtain ⟨F6,rfl⟩:=hF6;have:=e91 F6 p.facts A0 s1 (by rw [hA0H.h];exact haisH.h) (by rw [hA0H.h];exact hailH.h) (fun f hf=>by rw [hs1x];exact rok_sub hp.ok hs1p hw1 hf);rw [hA0H.h,hs1x] at this;exact this
    refine wpE_own (caps:=[]) (ps:=[_,_,_]) sh91 (.cons (.pure _) (.cons (.pure _) (.cons hf1 .nil))) hbad rfl ?_
    have hbadiff:=bad_okT (fs:=p.facts.xs) (k:=kk) (here:=here1);have hpts1:okC l.xs.length pts1:=by
     rw [hp1e]
     refine ⟨by rw [List.length_set];exact hst1.h.pts.1,fun x hx=>?_⟩
     rcases List.mem_or_eq_of_mem_set hx with h|rfl
     ·exact hst1.h.pts.2 x h
     ·exact hXoH.h
    have htk:pts1.take kk=pts.take kk:=by
     rw [hp1e,List.take_set_of_le (Nat.le_refl _)];exact hptH.h
    have htk1:pts1.take (kk+1)=pts.take kk++[⟨u,v⟩]:=by
     rw [← htk,List.take_add_one,hp1e];simp [hptl]
    have stc:AllSt I l.xs.length (E t) pts1 here1 V1 Hc:=by
     have g:=stbH.h
     refine ⟨?_,⟨g.v.1.keep fun id ⟨n,hn⟩=>?_,g.v.2⟩,g.vb,hcp,hch,hpts1⟩
     ·rw [hcg _ (by omega) (by omega)];exact g.o
     ·have:=g.vb id ⟨_,_,_,hn⟩;exact hcg id (by omega) (by omega)
    have hEt2:=hEtH.h;have hEc2:=hEcH.h;rw [← hh1e] at hEt2 hEc2;have hcbc:=fxc.cb;have hstcH:=Hide.mk stc;have hfxc:=Hide.mk fxc;have hkpc:=Hide.mk kpc;have hEt3:=Hide.mk hEt2;have hEc3:=Hide.mk hEc2;have hidc:Hc.get H.nx=Hb.get H.nx:=hcg _ (by omega) (by omega);have hidH:=Hide.mk hidc;have hcnH:=Hide.mk hcn;have hh1eH:=Hide.mk hh1e;have htkH:=Hide.mk htk;have htk1H:=Hide.mk htk1;have hqH2:=Hide.mk hs1;have hwH2:=Hide.mk hw1;clear stc fxc kpc hEt2 hEc2 hEtH hEcH hidc hcn hcg hch hcp hs1p hs1 hw1 hf1 hbad hHc hh1 hp1 hput hput2 htk htk1 hpts1 hh1e hp1e hat hnew hb1 pb1 cb1 hall habo hh1e'
    by_cases hok:okT p.facts.xs kk here1=true
    ·have hneg:=hbadiff.2 hok;have hEc4:=Hide.mk (hEc3.h hok);have hEt4:Hide (E (t+1)=E t++(enumC (okT p.facts.xs) l.xs ((List.range l.xs.length).drop (kk+1)) (kk+1) here1).map ((pts.take kk++[⟨u,v⟩]) ++ ·)):=⟨by rw [hEt3.h,if_pos hok]⟩
     clear hbadiff;generalize badI p.facts.xs here1 (aboutL p.facts.xs (natsL p.facts.xs.length) kk)=B at *;have w1:IntKind.i64.wrap ((kk:Int)+1)=(kk+1:Nat):=by rw [wrap64 (by have:=hp.few;omega) (by have:=hp.few;omega)];omega
     have hFx:=hFH.h;have hl2:∀ j (h:j < l.xs.length),kk+1≤j→here1[j]! = l.xs[j]:=fun j h hj=>by
      have h1:=hlH.h j h (by omega);have hnq:kk≠j:=by omega
      rw [← h1,hh1eH.h];simp [List.getElem?_set,hnq]
     obtain ⟨H',r1,V2,pts2,r2,r3,r4⟩:=ihH.h n (kk+1) Hc (E t) pts1 here1 V1 (by omega) hfxc.h hstcH.h hqH2.h hwH2.h hl2 hEc4.h;rw [← hFx] at r1;have hl2H:=Hide.mk hl2;have hFxH:=Hide.mk hFx;clear hl2 hFx;(repeat' first|simp [*,initEnv,capsA]|(apply wpIf_two<;>intro _ h<;>try simp [-Nat.le_zero_eq] at h));obtain ⟨F1,rfl⟩:∃ F1,F=F1+1:=⟨n+7+3*d,by have:=hFxH.h;omega⟩
     refine wpE_runA (n:=F1) sh_all ⟨.tup [],H',by simpa [capsA] using r1,?_⟩
     have hnx2:=r2.nx;have hid2:H'.get H.nx=Hb.get H.nx:=(r2.get _ (by have:=hcnH.h;omega) (by omega) (by omega) (by omega) hnnH.h).trans hidH.h;have kpf:=Hide.mk (hkpc.h.trans r2);rw [htk1H.h] at r4;have htf:pts2.take kk=pts.take kk:=by
      have h2:=congrArg (List.take kk) r4;rw [List.take_take,Nat.min_eq_left (by omega)] at h2;rw [h2,List.take_append_of_le_length (by rw [List.length_take];have:=st.pts.1;omega),List.take_take,Nat.min_self]
     have hstf:AllSt I l.xs.length (E (t+1)) pts2 (here.set kk (atB ⟨u,v⟩)) V2 H':=by
      rw [hEt4.h,← hh1eH.h];rw [htk1H.h] at r3;exact r3
     have hnn2:¬ Names V2 H.nx:=fun hn=>by
      rcases r2.nm _ hn with h|h
      ·exact hnnH.h h
      ·have:=hcnH.h;omega
     have hstfH:=Hide.mk hstf;have htfH:=Hide.mk htf;have hnn2H:=Hide.mk hnn2;have hcx:=hcnH.h;clear r1 r2 r3 r4 hstf htf hnn2;(repeat' first|simp [*,initEnv]|(apply wpIf_two<;>intro _ h<;>try simp [-Nat.le_zero_eq] at h));exact ⟨by omega,V2,kpf.h,_,pts2,hstfH.h,htfH.h,hnn2H.h⟩
    ·have hneg:¬ badI p.facts.xs here1 (aboutL p.facts.xs (natsL p.facts.xs.length) kk) < 0:=fun h=>hok (hbadiff.1 h);have hEt4:Hide (E (t+1)=E t):=⟨by rw [hEt3.h,if_neg hok]⟩
     clear hbadiff;generalize badI p.facts.xs here1 (aboutL p.facts.xs (natsL p.facts.xs.length) kk)=B at *;(repeat' first|simp [*,initEnv]|(apply wpIf_two<;>intro _ h<;>try simp [-Nat.le_zero_eq] at h))
     refine ⟨hidH.h,by have:=hcnH.h;omega,V1,hkpc.h,atB ⟨u,v⟩,pts1,?_,htkH.h,hnnH.h⟩
     rw [hEt4.h,← hh1eH.h];exact hstcH.h
   ·rw [← hwN];rintro H1 ⟨V1,y,pts',kp,st1,hpt,hnn⟩;rw [Nat.add_zero,hEw.h] at st1;have fx1:=fxH.h.keep kp st.vb;have hb1:=fx1.hb;have lb2:=fx1.lb;have h1h:=st1.h;have hsl:kk < (here.set kk y).length:=by simpa using hqh
    have hss:(here.set kk y).set kk l.xs[kk]=here:=by rw [List.set_set,hset]
    have hput:=putIn_rowG (f:=Box.cells) (sz:=4) (a:=l.xs[kk]) (fun _=>rfl) (fun _=>rfl) (by decide) hsl;rw [hss] at hput;simp only [Box.cells,Span.cells,List.map_cons,List.map_nil] at hput;have hst1H:=Hide.mk st1;have hkpH:=Hide.mk kp;have hH1:=nx_of_get h1h;clear fx1 st1 kp;(repeat' first|simp [*,initEnv]|(apply wpIf_two<;>intro _ h<;>try simp [-Nat.le_zero_eq] at h))
    refine ⟨V1,pts',⟨by rw [nx_set];exact hkpH.h.nx,fun j a b c e f=>by rw [get_set_ne e];exact hkpH.h.get j a b c e f,hkpH.h.nm⟩,⟨?_,?_,hst1H.h.vb,?_,get_set_own hH1,hst1H.h.pts⟩,hpt⟩
    ·rw [get_set_ne (by omega)];exact hst1H.h.o
    ·exact hst1H.h.v.set (fun hn=>by have:=hst1H.h.vb _ hn;omega) _
    ·rw [get_set_ne (by omega)];exact hst1H.h.p
  obtain ⟨v,H',h1,rfl,h2⟩:=main;rw [← hF];exact ⟨H',h1,h2⟩
def volT (l:List Box) (i:Nat):Int:=volG l 1 (List.range i)
theorem volT_next (l:List Box) (i:Nat):volT l (i+1)=min (volT l i*areaB l[i]!) 65537:=by
 unfold volT;rw [List.range_succ,volG_snoc]
def AllOutP (p:Problem) (S:List (List Pt)) (e:Int):Prop :=
 (checkS p≠0∧S=[]∧e=checkS p)∨(checkS p=0∧IsNar failsP p.facts.xs p.boxes.xs none∧S=[]∧e=9) ∨
 (checkS p=0∧∃ l,IsNar failsP p.facts.xs p.boxes.xs (some l)∧((65536 < volT l l.length∧S=[]∧e=2)∨(volT l l.length≤65536∧S=solsT p.facts.xs l∧e=if S=[] then 9 else 0)))
theorem solsT_few {facts:List Fact} {l:List Box} (hw:Wf l) (hv:volT l l.length≤65536):(solsT facts l).length≤65536:=by
 have h1:=enum_len (okT facts) l (List.range l.length) 0 l;have h2:=volG_len (l:=l) (fun k hk=>by rw [getElem!_pos l k hk];exact hw _ (List.getElem_mem hk)) (List.range l.length) 1 (fun k hk=>List.mem_range.1 hk) (by omega) hv;unfold volT at hv;unfold solsT;omega
theorem sh42:G.shared 42=false:=by decide
theorem e42 (n:Nat) (p:Problem) (S:List (List Pt)) (e:Int) (h:AllOutP p S e):callP G (n+50) 42 [.agg p.cells]=some (.tup [(Sl.of S).pv solF 1,.int .i64 e]):=by
 refine callP_of (ext_none _) rfl g42 rfl ?_
 have hc:=fun H=>call_pureC (G:=G) (n:=n+49) (H:=H) (caps:=[]) (ps:=[.agg p.cells]) sh49 (e49 (n+46) p);simp only [Problem.cells,List.map_cons,List.map_nil] at hc;rcases h with ⟨h0,rfl,rfl⟩|⟨h0,hr,rfl,rfl⟩|⟨h0,l,hr,h⟩
 ·generalize checkS p=c at *;simp only [Sl.of_nil,Sl.pv_nil];(repeat' first|simp [*,initEnv,c42,Problem.cells]|(apply wpIf_two<;>intro _ h<;>try simp [-Nat.le_zero_eq] at h)|(show wpE 0 (doAppend ..) ..;refine wpE_appW ?_)|(refine after_intro fun v2 H2 hv2 hnx2 hget2 hnew2 hone2 hcel2=>?_))
 ·have ok:=check_ok.1 h0;have hn:=fun H=>call_pureC (G:=G) (n:=n+49) (H:=H) (caps:=[]) (ps:=[.agg p.cells]) sh62 (e62 (n+42) p ok none hr);have hnone:narPV p none=.nils:=rfl;rw [hnone] at hn;rw [h0] at hc;simp only [Problem.cells,List.map_cons,List.map_nil] at hn;simp only [Sl.of_nil,Sl.pv_nil];clear hr hnone h0 ok;(repeat' first|simp [*,initEnv,c42,Problem.cells]|(apply wpIf_two<;>intro _ h<;>try simp [-Nat.le_zero_eq] at h)|(show wpE 0 (doAppend ..) ..;refine wpE_appW ?_)|(refine after_intro fun v2 H2 hv2 hnx2 hget2 hnew2 hone2 hcel2=>?_))
 ·have ok:=check_ok.1 h0;have hl:l.length=p.boxes.xs.length:=hr.1.sub.1;obtain ⟨q,hq,hqx⟩:=nar_sl hl;have hn:=fun H=>call_pureC (G:=G) (n:=n+49) (H:=H) (caps:=[]) (ps:=[.agg p.cells]) sh62 (e62 (n+42) p ok (some l) hr);rw [hq] at hn;rw [h0] at hc;simp only [Problem.cells,List.map_cons,List.map_nil] at hn;have nb:=ok.nb;have hP:AllP p q:=⟨ok,by rw [hqx];exact hr.1.sub,by rw [hqx];exact hr.1.wf,by rw [hqx];omega⟩
  have hval:=valid_sub ok hr.1.sub hr.1.wf;rw [← hqx] at hval h;have hsz:Hide (∀ (k:Nat) (h:k < q.xs.length) (H:Heap),doCall (calleeOf G (n+49)) H (.pure (.func 85 [])) [.pure (.agg q.xs[k].x.cells)]=some (.val (.pure (.int .i64 (q.xs[k].x.hi - q.xs[k].x.lo+1))))∧doCall (calleeOf G (n+49)) H (.pure (.func 85 [])) [.pure (.agg q.xs[k].y.cells)]=some (.val (.pure (.int .i64 (q.xs[k].y.hi - q.xs[k].y.lo+1))))):=⟨fun k h H=>by
   have hv:=valid_iff.1 (hval _ (List.getElem_mem h));exact ⟨call_pureC (caps:=[]) (ps:=[_]) sh85 (e85 (n+48) q.xs[k].x (by omega) (by omega)),call_pureC (caps:=[]) (ps:=[_]) sh85 (e85 (n+48) q.xs[k].y (by omega) (by omega))⟩⟩
  have ha:∀ k,k < q.xs.length→1≤areaB q.xs[k]! := fun k h=>by
   have hv:=valid_iff.1 (hval _ (List.getElem_mem h));rw [getElem!_pos q.xs k h];exact area_pos ⟨by omega,by omega⟩
  have hrng:Hide (∀ i,i≤q.xs.length→1≤volT q.xs i∧volT q.xs i≤65537):=⟨fun i hi=>volG_rng ha _ _ (fun k hk=>by have:=List.mem_range.1 hk;omega) (by omega) (by omega)⟩
  have hvalH:=Hide.mk hval;have nq:q.xs.length≤12:=by rw [hqx];omega
  have hH:=Hide.mk h;have hPH:=Hide.mk hP;clear hr ok hl hq hqx h hP hval ha h0 nb;(repeat' first|simp [*,initEnv,c42,Problem.cells]|(apply wpIf_two<;>intro _ h<;>try simp [-Nat.le_zero_eq] at h)|(show wpE 0 (doAppend ..) ..;refine wpE_appW ?_)|(refine after_intro fun v2 H2 hv2 hnx2 hget2 hnew2 hone2 hcel2=>?_))
  refine wp_loopF [(7,7),(9,9),(28,42)] (fun (i:Nat) env H=>env 28=.pure (.int .i64 i)∧i≤q.xs.length∧0 < H.nx∧H.get 0=.cells true [.pure (q.pv Box.cells 4)]∧∃ x:Int,env 7=.pure (.int .i64 x)∧Hide (x=volT q.xs i)) (fun i=>q.xs.length - i) 0 ?_ ?_ ?_ ?_
  ·decide
  ·exact ⟨by simp,by omega,by simp,by simp,1,by simp,⟨rfl⟩⟩
  ·simp only [loopFuel];omega
  rintro i env H ⟨g28,hi,hnx,hg0,x,g7,hx⟩
  by_cases hlt:i < q.xs.length
  ·have w1:IntKind.i64.wrap ((i:Int)+1)=(i+1:Nat):=by rw [wrap64 (by omega) (by omega)];omega
   have hltI:(i:Int) < q.xs.length:=by omega
   have hz1:=fun H=>(hsz.h i hlt H).1;have hz2:=fun H=>(hsz.h i hlt H).2;have hv:=valid_iff.1 (hvalH.h _ (List.getElem_mem hlt));have hr:=hrng.h i hi;rw [← hx.h] at hr;have hw:=wraps_vol (y:=x) (u:=q.xs[i].x.hi - q.xs[i].x.lo+1) (v:=q.xs[i].y.hi - q.xs[i].y.lo+1) hr.1 hr.2 (by omega) (by omega) (by omega) (by omega);have hw1:=hw.1;have hw2:=hw.2;have hx2:Hide (min (x*(q.xs[i].x.hi - q.xs[i].x.lo+1)*(q.xs[i].y.hi - q.xs[i].y.lo+1)) 65537=volT q.xs (i+1)):=⟨by rw [volT_next,getElem!_pos q.xs i hlt,hx.h,Int.mul_assoc];rfl⟩
   simp only [Span.cells] at hz1 hz2;have hne:(0:Nat)≠H.nx:=by omega
   clear hv hr hw hx;(repeat' first|simp [*,initEnv,Box.cells,Span.cells]|(apply wpIf_two<;>intro _ h<;>try simp [-Nat.le_zero_eq] at h)|(show wpE 0 (doAppend ..) ..;refine wpE_appW ?_)|(refine after_intro fun v2 H2 hv2 hnx2 hget2 hnew2 hone2 hcel2=>?_));exact ⟨i+1,by omega,by omega,by omega,hx2⟩
  ·have hil:i=q.xs.length:=by omega
   subst hil;rcases hH.h with ⟨hv,rfl,rfl⟩|⟨hv,hS,he⟩
   ·have hxv:(65536:Int) < x:=by rw [hx.h];exact hv
    clear hv hx;simp only [Sl.of_nil,Sl.pv_nil];(repeat' first|simp [*,initEnv]|(apply wpIf_two<;>intro _ h<;>try simp [-Nat.le_zero_eq] at h)|(show wpE 0 (doAppend ..) ..;refine wpE_appW ?_)|(refine after_intro fun v2 H2 hv2 hnx2 hget2 hnew2 hone2 hcel2=>?_))
   ·have hxv:¬ (65536:Int) < x:=by rw [hx.h];omega
    have hSH:=Hide.mk hS;have heH:=Hide.mk he;have hSl:=solsT_few (facts:=p.facts.xs) hPH.h.wf hv;rw [← hS] at hSl;have hSlH:=Hide.mk hSl;have hmx:q.xs.length*2≤maxCells∧q.xs.length*16≤maxCells∧q.xs.length≤maxCells:=by unfold maxCells;omega
    have hne0:(0:Nat)≠H.nx:=by omega
    have hne2:(0:Nat)≠H.nx+2:=by omega
    have hrp:=rep_pts q.xs.length;simp only [List.map_cons,List.map_nil] at hrp;clear hv hx hS he hSl hH;(repeat' first|simp [*,initEnv]|(apply wpIf_two<;>intro _ h<;>try simp [-Nat.le_zero_eq] at h)|(show wpE 0 (doAppend ..) ..;refine wpE_appW ?_)|(refine after_intro fun v2 H2 hv2 hnx2 hget2 hnew2 hone2 hcel2=>?_))
    refine wpE_cloneB (n:=n+48) (by omega) ?_
    intro v' H' hv' hvn hnx' hsame hnew;have hB3:H.nx+3≤H'.nx:=by simp at hnx';omega
    have k0:H'.get 0=.cells true [.pure (q.pv Box.cells 4)]:=by
     rw [hsame 0 (by simp),get_set_ne (by omega),get_alloc_lt (by simp),get_alloc_lt (by simp),get_alloc_lt hnx];exact hg0
    have kB:H'.get H.nx=.cells true [.pure .nils]:=by
     rw [hsame H.nx (by simp;omega),get_set_ne (by omega),get_alloc_lt (by simp;omega),get_alloc_lt (by simp),get_alloc_nx]
    have kp:H'.get (H.nx+1)=.cells true (rowOf Pt.cells (List.replicate q.xs.length ⟨0,0⟩)):=by
     rw [hsame (H.nx+1) (by simp),get_set_ne (by omega),get_alloc_lt (by simp)];exact get_alloc_nx (H:=H.alloc (.cells true [.pure .nils])) _
    have kpb:H'.get (H.nx+1+1)=.cells true [.row (H.nx+1) 2 0 q.xs.length]:=by
     rw [hsame (H.nx+1+1) (by simp),get_set_own (by simp)]
    have hhid:∃ hid,(0 < q.xs.length→v'=.row hid 4 0 q.xs.length∧H'.get hid=.cells true (rowOf Box.cells q.xs)∧H.nx+3≤hid):=by
     by_cases m0:q.xs.length=0
     ·exact ⟨0,fun h=>by omega⟩
     ·obtain ⟨hid,rfl,hg⟩:=hv'.row (fun h=>m0 (by rw [h];rfl));exact ⟨hid,fun _=>⟨rfl,hg,by have:=hnew hid ⟨_,_,_,rfl⟩;simp at this;omega⟩⟩
    obtain ⟨hid,hhid⟩:=hhid;have hone:=hv'.one;have ho1:=hone.1;have ho2:=hone.2;have key:∀ Hs:Heap,Hs.nx=H'.nx+2→(∀ j,j < H'.nx→Hs.get j=H'.get j)→Hs.get H'.nx=.cells true [v']→Hs.get (H'.nx+1)=.cells true [.func 87 (capsA ⟨0,H.nx,H.nx+1,H.nx+1+1,hid,H'.nx,H'.nx+1⟩ p)] →
      ∃ H2,Vm.call G (n+48+1) (.fn 87) ([.pure (.int .i64 0)]++capsA ⟨0,H.nx,H.nx+1,H.nx+1+1,hid,H'.nx,H'.nx+1⟩ p) Hs=some (.tup [],H2)∧∃ V',GrowV solF 1 H2 V' S∧H2.get H.nx=.cells true [V']:=by
     intro Hs hsn hg s1 s2
     by_cases m0:q.xs.length=0
     ·have hq0:q.xs=[]:=List.eq_nil_of_length_eq_zero m0;have hS1:S=[]++[[]]:=by rw [hSH.h,hq0];rfl
      have kp':=kp;rw [hq0] at kp';obtain ⟨v,H2,h1,rfl,h2⟩:=all_leaf (n:=n+47) (H:=Hs) (lb:=0) (ob:=H.nx) (pb:=H.nx+1+1) (pid:=H.nx+1) (m:=0) (c1:=.box H'.nx 0) (c2:=.pure (.ptr false p.cells 0)) (c3:=.box (H'.nx+1) 0) (l:=q) (S:=[]) (c:=[]) (V:=.pure .nils)
       (k:=fun v H2=>v=.tup []∧∃ V',GrowV solF 1 H2 V' S∧H2.get H.nx=.cells true [V']) ⟨hnx,by omega,by omega⟩ ((hg 0 (by omega)).trans k0) ((hg _ (by omega)).trans kB) (by rw [hg _ (by omega),kpb,m0]) (by rw [hg _ (by omega),kp'];rfl) rfl m0 (by omega) GrowV.nil (fun id ⟨_,_,_,h⟩=>by simp at h) (by simp)
       (fun V' H2 h1 h2 _ _ _=>⟨rfl,V',by rw [hS1];exact h1,h2⟩)
      exact ⟨H2,h1,h2⟩
     ·obtain ⟨rfl,hgh,hlo⟩:=hhid (by omega);have hidn:=nx_of_get hgh;obtain ⟨H2,r1,V2,pts2,r2,r3,_⟩:=all_call (I:=⟨0,H.nx,H.nx+1,H.nx+1+1,hid,H'.nx,H'.nx+1⟩) hPH.h q.xs.length (n+41 - 3*q.xs.length) 0 Hs [] (List.replicate q.xs.length ⟨0,0⟩) q.xs (.pure .nils) (by omega)
       ⟨⟨hnx,(by omega:H.nx < H.nx+1),(by omega:H.nx+1 < H.nx+1+1),(by omega:H.nx+1+1 < hid),hidn,(by omega:H'.nx < H'.nx+1)⟩,(hg 0 (by omega)).trans k0,(hg (H.nx+1+1) (by omega)).trans kpb,s1,s2⟩
       ⟨(hg H.nx (by omega)).trans kB,GrowV.nil,fun id ⟨_,_,_,h⟩=>by simp at h,(hg (H.nx+1) (by omega)).trans kp,(hg hid hidn).trans hgh,⟨by simp,fun x hx=>by
        have:=List.eq_of_mem_replicate hx;subst this;exact ⟨⟨by decide,by decide⟩,⟨by decide,by decide⟩⟩⟩⟩
       (SubL.refl _) hPH.h.wf (fun j h _=>getElem!_pos q.xs j h) (by
        have:(enumC (okT p.facts.xs) q.xs ((List.range q.xs.length).drop 0) 0 q.xs)=S:=hSH.h.symm;rw [this];have:=hSlH.h;simp only [List.length_nil];omega)
      have hSe:[]++(enumC (okT p.facts.xs) q.xs ((List.range q.xs.length).drop 0) 0 q.xs).map ((List.replicate q.xs.length (⟨0,0⟩:Pt)).take 0 ++ ·)=S:=by
       have:(enumC (okT p.facts.xs) q.xs ((List.range q.xs.length).drop 0) 0 q.xs)=S:=hSH.h.symm;rw [this];simp
      rw [hSe] at r3
      refine ⟨H2,?_,V2,r3.v,r3.o⟩
      have e:n+41 - 3*q.xs.length+8+3*q.xs.length=n+48+1:=by omega
      rw [e] at r1;exact r1
    have keyH:=Hide.mk key;have hB3H:=Hide.mk hB3;clear key hv' hvn hnx' hsame hnew hhid hone k0 kB kp kpb hrp hmx;(repeat' first|simp [*,initEnv,funcV,puresL]|(apply wpIf_two<;>intro _ h<;>try simp [-Nat.le_zero_eq] at h)|(show wpE 0 (doAppend ..) ..;refine wpE_appW ?_)|(refine after_intro fun v2 H2 hv2 hnx2 hget2 hnew2 hone2 hcel2=>?_))
    refine wpE_runA (n:=n+48) sh_all (run_of (keyH.h _ ?_ ?_ ?_ ?_) ?_)
    ·simp
    ·intro j hj;rw [get_set_ne (by omega),get_alloc_lt (by rw [nx_set];simp;omega),get_set_ne (by omega),get_alloc_lt hj]
    ·rw [get_set_ne (by omega),get_alloc_lt (by simp),get_set_own (by simp)]
    ·rw [get_set_own (by simp)];rfl
    ·rintro H2 ⟨V2,hV2,hg2⟩;have hlen:=hV2.1.len;have hone:=hV2.1.one;have hw1:=hone.1;have hw2:=hone.2;have hVH:=Hide.mk hV2;clear keyH hone hSH hSlH
     by_cases hS0:S=[]
     ·have he9:e=9:=by rw [heH.h,if_pos hS0]
      subst he9;subst hS0;have z:V2=.pure .nils:=hV2.2 rfl;subst z;clear hlen hV2 hVH heH;simp only [Sl.of_nil,Sl.pv_nil];(repeat' first|simp [*,initEnv]|(apply wpIf_two<;>intro _ h<;>try simp [-Nat.le_zero_eq] at h)|(show wpE 0 (doAppend ..) ..;refine wpE_appW ?_)|(refine after_intro fun v2 H2 hv2 hnx2 hget2 hnew2 hone2 hcel2=>?_))
     ·have he0:e=0:=by rw [heH.h,if_neg hS0]
      subst he0;have hr:=hV2.res (n:=9) (fun _=>rfl);have hne:¬ (S.length:Int)=0:=fun h=>hS0 (List.eq_nil_of_length_eq_zero (by omega));have hneN:¬ S.length=0:=fun h=>hS0 (List.eq_nil_of_length_eq_zero h);obtain ⟨ids,hids⟩:=hr;clear hV2 hVH heH;generalize (Sl.of S).pv solF 1=sl at *;(repeat' first|simp [*,initEnv]|(apply wpIf_two<;>intro _ h<;>try simp [-Nat.le_zero_eq] at h)|(show wpE 0 (doAppend ..) ..;refine wpE_appW ?_)|(refine after_intro fun v2 H2 hv2 hnx2 hget2 hnew2 hone2 hcel2=>?_))
def rowsP (ids:List (Nat×List Pt)):List AV:=ids.map fun x=>.row x.1 2 0 x.2.length
structure PaS (B:Nat) (H:Heap) (v:AV) (ps:List (List Pt)):Prop where
 ex:∃ ids:List (Nat×List Pt),ids.map Prod.snd=ps∧RowA H v (rowsP ids)∧∀ x∈ids,B≤x.1∧¬ Names v x.1∧H.get x.1=.cells true (rowOf Pt.cells x.2)
 low:∀ id,Names v id→B≤id
theorem PaS.nil (B:Nat) (H:Heap):PaS B H (.pure .nils) []:=⟨⟨[],rfl,RowA.nil,fun x hx=>by simp at hx⟩,fun id ⟨_,_,_,h⟩=>by simp at h⟩
theorem PaS.keep {B:Nat} {H H':Heap} {v:AV} {ps:List (List Pt)} (h:PaS B H v ps) (hk:∀ j,B≤j→j < H.nx→H'.get j=H.get j):PaS B H' v ps:=by
 obtain ⟨ids,h1,h2,h3⟩:=h.ex
 refine ⟨⟨ids,h1,h2.keep fun id hn=>hk id (h.low id hn) (h2.names_lt hn),fun x hx=>?_⟩,h.low⟩
 obtain ⟨a,b,c⟩:=h3 x hx;exact ⟨a,b,by rw [hk x.1 a (nx_of_get c)];exact c⟩
theorem PaS.one {B:Nat} {H:Heap} {v:AV} {ps:List (List Pt)} (h:PaS B H v ps):AV.one v=true∧AV.cells v=[v]:=by
 obtain ⟨ids,_,h2,_⟩:=h.ex;exact h2.one
theorem PaS.len {B:Nat} {H:Heap} {v:AV} {ps:List (List Pt)} (h:PaS B H v ps):lenSlV v=some (.val (.pure (.int .i64 ps.length))):=by
 obtain ⟨ids,h1,h2,_⟩:=h.ex;rw [h2.len];have:(rowsP ids).length=ps.length:=by rw [← h1];simp [rowsP]
 rw [this]
theorem PaS.lt {B:Nat} {H:Heap} {v:AV} {ps:List (List Pt)} (h:PaS B H v ps) {id:Nat} (hn:Names v id):id < H.nx:=by
 obtain ⟨ids,_,hr,_⟩:=h.ex;exact hr.names_lt hn
theorem rowsP_frz {n:Nat} {H:Heap}:∀ ids:List (Nat×List Pt),(∀ x∈ids,H.get x.1=.cells true (rowOf Pt.cells x.2))→FrzL H false (n+2) (rowsP ids) (ids.map fun x=>(Sl.mk false x.2).pv Pt.cells 2)
 | [],_=>FrzL.nil
 | x::ids,h=>FrzL.cons (row_res (n:=n) (f:=Pt.cells) (sz:=2) (fun _=>rfl) (h x List.mem_cons_self) rfl) (rowsP_frz ids fun y hy=>h y (List.mem_cons_of_mem _ hy))
theorem PaS.res {n B:Nat} {H:Heap} {v:AV} {ps:List (List Pt)} (h:PaS B H v ps):FrzK H false (n+3) v ((Sl.of ps).pv solF 1):=by
 obtain ⟨ids,h1,h2,h3⟩:=h.ex;have h4:=h2.frz (rowsP_frz (n:=n) ids fun x hx=>(h3 x hx).2.2);have e:(if (rowsP ids).isEmpty=true then PV.nils else .slice false 1 ((ids.map fun x=>(Sl.mk false x.2).pv Pt.cells 2).map fun p=>[p]))=(Sl.of ps).pv solF 1:=by
  subst h1
  cases ids with
  | nil=>rfl
  | cons x ids=>simp [rowsP,Sl.pv,solF]
 rw [e] at h4;exact h4
theorem wpE_appendPS {B:Nat} {H:Heap} {v:AV} {ps:List (List Pt)} {bytes id:Nat} {l:List Pt} {b:AV} {k:AV→Heap→Prop} {u} (hp:PaS B H v ps) (h2:B≤H.nx) (hb:sliceCells H 1 b=some ([.row id 2 0 l.length],1)) (hid:B≤id) (hn:¬ Names v id)
  (hg:H.get id=.cells true (rowOf Pt.cells l)) (hm:ps.length+1≤maxCells∧(ps.length+1)*bytes≤maxCells)
  (hk:∀ v' H',PaS B H' v' (ps++[l])→H.nx≤H'.nx→(∀ c,c < B→H'.get c=H.get c)→k v' H'):wpE 0 (doAppend H 1 bytes v b) H k u:=by
 obtain ⟨ids,h1,hr,h3⟩:=hp.ex;have hlen:(rowsP ids).length=ps.length:=by rw [← h1];simp [rowsP]
 refine wpE_appendA hr hb rfl (by simp [rowsP,List.all_map];try (intro a b _;rfl)) (by rw [hlen];exact hm) ?_
 intro v' H' hr' hnx hsame hnew h1' h2'
 refine hk v' H' ⟨⟨ids++[(id,l)],by rw [List.map_append,h1];rfl,by simpa [rowsP] using hr',fun x hx=>?_⟩,fun j hj=>by have:=hnew j hj;omega⟩ hnx (fun c hc=>hsame c (by omega) fun h=>by have:=hp.low c h;omega)
 rcases List.mem_append.1 hx with hx|hx
 ·obtain ⟨a,b,c⟩:=h3 x hx;have hlt:=nx_of_get c;exact ⟨a,fun h=>by have:=hnew _ h;omega,by rw [hsame _ hlt b];exact c⟩
 ·simp at hx;subst hx;have hlt:=nx_of_get hg;exact ⟨hid,fun h=>by have:=hnew _ h;simp only at this;omega,by rw [hsame _ hlt hn];exact hg⟩
def AtV (H:Heap) (A:AV) (c:List Pt) (m B:Nat):Prop:=(m=0∧A=.pure .nils∧c=[])∨∃ aid,A=.row aid 2 0 m∧H.get aid=.cells true (rowOf Pt.cells c)∧c.length=m∧0 < m∧aid < B
theorem AtV.keep {H H':Heap} {A:AV} {c:List Pt} {m B:Nat} (h:AtV H A c m B) (hk:∀ j,j < B→H'.get j=H.get j):AtV H' A c m B:=by
 rcases h with h|⟨aid,h1,h2,h3,h4,h5⟩
 ·exact .inl h
 ·exact .inr ⟨aid,h1,(hk _ h5).trans h2,h3,h4,h5⟩
theorem AtV.len {H:Heap} {A:AV} {c:List Pt} {m B:Nat} (h:AtV H A c m B):c.length=m:=by
 rcases h with ⟨rfl,_,rfl⟩|⟨_,_,_,h,_⟩
 ·rfl
 ·exact h
theorem AtV.cells {H:Heap} {A:AV} {c:List Pt} {m B:Nat} (h:AtV H A c m B):sliceCells H 2 A=some (rowOf Pt.cells c,c.length):=by
 rcases h with ⟨rfl,rfl,rfl⟩|⟨aid,rfl,h2,h3,_⟩
 ·rfl
 ·subst h3;have hl:=rowOf_length (f:=Pt.cells) (sz:=2) (fun _=>rfl) c;rw [sliceCells_row,h2];simp only [rowCells];rw [if_pos (by omega),Nat.zero_mul,List.drop_zero,List.take_of_length_le (by omega)]
theorem AtV.frz {H:Heap} {A:AV} {c:List Pt} {m B:Nat} (h:AtV H A c m B):∃ s:Sl Pt,s.xs=c∧FrzK H true 12 A (s.pv Pt.cells 2):=by
 rcases h with ⟨rfl,rfl,rfl⟩|⟨aid,rfl,h2,h3,_⟩
 ·exact ⟨.nil,rfl,.pure _⟩
 ·exact row_sl (n:=10) (fun _=>rfl) h2 h3
theorem later_nil (n:Nat) (H:Heap) (l:Sl Box):∃ v H',Vm.call G (n+1) (.fn 95) [.pure (l.pv Box.cells 4),.pure .nils] H=some (v,H')∧(v=.pure (.bool false)∧H'=H):=by
 refine call_of rfl g95 rfl ?_
 have w0:IntKind.i64.wrap (-1)=-1:=wrap64 (by omega) (by omega);(repeat' first|simp [*,initEnv,c95]|(apply wpIf_two<;>intro _ h<;>try simp [-Nat.le_zero_eq] at h))
 refine wp_loopF [(4,5),(9,72)] (fun (i:Nat) env H'=>env 5=.pure (.int .i64 (-1))∧H'=H) (fun i=>0) 0 ?_ ?_ ?_ ?_
 ·decide
 ·exact ⟨by simp [w0],rfl⟩
 ·simp only [loopFuel];omega
 rintro i env H' ⟨g5,rfl⟩;(repeat' first|simp [*,initEnv]|(apply wpIf_two<;>intro _ h<;>try simp [-Nat.le_zero_eq] at h))
theorem lowB_take {l:List Box} {i:Nat} (h:i < l.length):(l.map lowB).take (i+1)=(l.map lowB).take i++[⟨l[i].x.lo,l[i].y.lo⟩]:=by
 rw [List.take_add_one,List.getElem?_eq_getElem (by simpa using h),List.getElem_map];rfl
def holdL (facts:List Fact) (c:List Pt):Bool:=facts.all fun f=>!failsS f (c.map atB)
theorem sh43:G.shared 43=false:=by decide
theorem e43 (n:Nat) (p:Problem) (S:List (List Pt)) (e:Int) (h:AllOutP p S e):callP G (n+12) 43 [.agg p.cells]=some (.tup [(Sl.of S).pv solF 1,.int .i64 e]):=by
 refine callP_of (ext_none _) rfl g43 rfl ?_
 have hc:=fun H=>call_pureC (G:=G) (n:=n+11) (H:=H) (caps:=[]) (ps:=[.agg p.cells]) sh28 (e28 (n+8) p);simp only [Problem.cells,List.map_cons,List.map_nil] at hc;rcases h with ⟨h0,rfl,rfl⟩|⟨h0,hr,rfl,rfl⟩|⟨h0,l,hr,h⟩
 ·generalize checkS p=c at *;simp only [Sl.of_nil,Sl.pv_nil];(repeat' first|simp [*,initEnv,c43,Problem.cells]|(apply wpIf_two<;>intro _ h<;>try simp [-Nat.le_zero_eq] at h)|(show wpE 0 (doAppend ..) ..;refine wpE_appW ?_)|(refine after_intro fun v2 H2 hv2 hnx2 hget2 hnew2 hone2 hcel2=>?_))
 ·have ok:=check_ok.1 h0;have hn:=fun H=>call_pureC (G:=G) (n:=n+11) (H:=H) (caps:=[]) (ps:=[.agg p.cells]) sh63 (e63 (n+2) p ok none hr);have hnone:refPV none=.nils:=rfl;rw [hnone] at hn;rw [h0] at hc;simp only [Problem.cells,List.map_cons,List.map_nil] at hn;simp only [Sl.of_nil,Sl.pv_nil];clear hr hnone h0 ok;(repeat' first|simp [*,initEnv,c43,Problem.cells]|(apply wpIf_two<;>intro _ h<;>try simp [-Nat.le_zero_eq] at h)|(show wpE 0 (doAppend ..) ..;refine wpE_appW ?_)|(refine after_intro fun v2 H2 hv2 hnx2 hget2 hnew2 hone2 hcel2=>?_))
 ·have ok:=check_ok.1 h0;have hl:l.length=p.boxes.xs.length:=hr.1.sub.1;have hn:=fun H=>call_pureC (G:=G) (n:=n+11) (H:=H) (caps:=[]) (ps:=[.agg p.cells]) sh63 (e63 (n+2) p ok (some l) hr);have hsome:refPV (some l)=(Sl.mk false l).pv Box.cells 4:=rfl;rw [hsome] at hn;rw [h0] at hc;simp only [Problem.cells,List.map_cons,List.map_nil] at hn;have nb:=ok.nb;have nf:=ok.nf;have hval:=valid_sub ok hr.1.sub hr.1.wf;obtain ⟨q,hq⟩:∃ q,Sl.mk false l=q:=⟨_,rfl⟩
  have hqx:q.xs=l:=by rw [← hq];rfl
  rw [hq] at hn;have hwf:Wf q.xs:=by rw [hqx];exact hr.1.wf
  have hN:∀ f∈p.facts.xs,Named f q.xs.length:=fun f hf=>by rw [hqx,hl];exact fact_named ok f hf
  rw [← hqx] at hval h;have hin:∀ c,c∈allR q.xs→c.length=q.xs.length∧∀ x∈c,okP x:=fun c hc=>by
   rw [allR_allC] at hc;obtain ⟨h1,h2⟩:=mem_allC.1 hc;rw [List.length_range] at h1
   refine ⟨h1,fun x hx=>?_⟩
   obtain ⟨i,hi,rfl⟩:=List.getElem_of_mem hx;have hiq:i < q.xs.length:=by omega
   have h3:=h2 i (by rw [List.length_range];exact hiq) hi;rw [List.getElem_range,getElem!_pos q.xs i hiq] at h3;have hv:=valid_iff.1 (hval _ (List.getElem_mem hiq));unfold inB' at h3;unfold okP;omega
  have hbx:∀ b∈q.xs,boxIn 1048576 b:=fun b hb=>by
   have:=valid_iff.1 (hval b hb);unfold boxIn;omega
  have hhold:∀ c,c∈allR q.xs→∀ (s:Sl Pt),s.xs=c→callP G (n+11) 96 [p.facts.pv Fact.cells 9,s.pv Pt.cells 2]=some (.bool (holdL p.facts.xs c)):=fun c hc s hs=>by
   have hc':=hc;rw [allR_allC] at hc';obtain ⟨h1,h2⟩:=mem_allC.1 hc';rw [List.length_range] at h1;have hsub:SubL (c.map atB) p.boxes.xs:=by
    refine (at_sub h1 fun i h h'=>?_).trans (by rw [hqx];exact hr.1.sub)
    have h3:=h2 i (by rw [List.length_range];exact h') h;rwa [List.getElem_range,getElem!_pos q.xs i h'] at h3
   have hw:Wf (c.map atB):=fun b hb=>by
    obtain ⟨x,_,rfl⟩:=List.mem_map.1 hb;exact ⟨Int.le_refl _,Int.le_refl _⟩
   have:=e96 (n+9) p.facts s (fun f hf=>by rw [hs];exact rok_sub ok hsub hw hf) (by omega);rw [hs] at this;exact this
  have harea:Hide (∀ (k:Nat) (h:k < q.xs.length) (H:Heap),doCall (calleeOf G (n+11)) H (.pure (.func 94 [])) [.pure (.agg q.xs[k].cells)]=some (.val (.pure (.int .i64 (areaB q.xs[k]))))):=⟨fun k h H=>call_pureC (caps:=[]) (ps:=[_]) sh94 (e94 (n+10) q.xs[k] (hval _ (List.getElem_mem h)))⟩
  have ha:∀ k,k < q.xs.length→1≤areaB q.xs[k]! := fun k h=>by
   rw [getElem!_pos q.xs k h];exact area_pos (hwf _ (List.getElem_mem h))
  have hrng:Hide (∀ i,i≤q.xs.length→1≤volT q.xs i∧volT q.xs i≤65537):=⟨fun i hi=>volG_rng ha _ _ (fun k hk=>by have:=List.mem_range.1 hk;omega) (by omega) (by omega)⟩
  have haH:=Hide.mk ha;have nq:q.xs.length≤12:=by rw [hqx];omega
  have hSe:=solsT_eq hN hwf;have hH:=Hide.mk h;have hwfH:=Hide.mk hwf;have hinH:=Hide.mk hin;have hbxH:=Hide.mk hbx;have hhoH:=Hide.mk hhold;have hSeH:=Hide.mk hSe;clear hr ok hl hq hqx h hval ha h0 nb nf hsome hwf hN hin hbx hhold hSe;(repeat' first|simp [*,initEnv,c43,Problem.cells]|(apply wpIf_two<;>intro _ h<;>try simp [-Nat.le_zero_eq] at h)|(show wpE 0 (doAppend ..) ..;refine wpE_appW ?_)|(refine after_intro fun v2 H2 hv2 hnx2 hget2 hnew2 hone2 hcel2=>?_))
  refine wp_loopF [(7,8),(26,40)] (fun (i:Nat) env H=>env 8=.pure (.int .i64 i)∧i≤q.xs.length∧∃ x:Int,env 7=.pure (.int .i64 x)∧Hide (x=volT q.xs i)) (fun i=>q.xs.length - i) 0 ?_ ?_ ?_ ?_
  ·decide
  ·exact ⟨by simp,by omega,1,by simp,⟨rfl⟩⟩
  ·simp only [loopFuel];omega
  rintro i env H ⟨g8,hi,x,g7,hx⟩
  by_cases hlt:i < q.xs.length
  ·have w1:IntKind.i64.wrap ((i:Int)+1)=(i+1:Nat):=by rw [wrap64 (by omega) (by omega)];omega
   have hltI:(i:Int) < q.xs.length:=by omega
   have hz:=harea.h i hlt;have hr:=hrng.h i hi;have h1:=haH.h i hlt;rw [← hx.h] at hr;have hx2:Hide (min 65537 (x*min 65537 (areaB q.xs[i]))=volT q.xs (i+1)):=⟨by
    rw [volT_next,getElem!_pos q.xs i hlt,← hx.h];rw [getElem!_pos q.xs i hlt] at h1;have:=min_area hr.1 h1 (show (1:Int)≤65537 by decide);rw [Int.min_comm 65537 (x*_)];exact this⟩
   rw [getElem!_pos q.xs i hlt] at h1;have hm2:1≤min 65537 (areaB q.xs[i])∧min 65537 (areaB q.xs[i])≤65537:=by omega
   have hmul1:=Int.mul_le_mul hr.2 hm2.2 (by omega) (by omega);have hmul2:=Int.mul_le_mul hr.1 hm2.1 (by omega) (by omega);have hw:IntKind.i64.wrap (x*min 65537 (areaB q.xs[i]))=x*min 65537 (areaB q.xs[i]):=wrap64 (by omega) (by omega);simp only [Box.cells,Span.cells] at hz;generalize areaB q.xs[i]=a at *;clear hr hx h1 hm2 hmul1 hmul2;(repeat' first|simp [*,initEnv,Box.cells,Span.cells]|(apply wpIf_two<;>intro _ h<;>try simp [-Nat.le_zero_eq] at h)|(show wpE 0 (doAppend ..) ..;refine wpE_appW ?_)|(refine after_intro fun v2 H2 hv2 hnx2 hget2 hnew2 hone2 hcel2=>?_));exact ⟨i+1,by omega,by omega,by omega,hx2⟩
  ·have hil:i=q.xs.length:=by omega
   subst hil;rcases hH.h with ⟨hv,rfl,rfl⟩|⟨hv,hS,he⟩
   ·have hxv:(65536:Int) < x:=by rw [hx.h];exact hv
    clear hv hx;simp only [Sl.of_nil,Sl.pv_nil];(repeat' first|simp [*,initEnv]|(apply wpIf_two<;>intro _ h<;>try simp [-Nat.le_zero_eq] at h)|(show wpE 0 (doAppend ..) ..;refine wpE_appW ?_)|(refine after_intro fun v2 H2 hv2 hnx2 hget2 hnew2 hone2 hcel2=>?_))
   ·have hxv:¬ (65536:Int) < x:=by rw [hx.h];omega
    have hS2:Hide (S=(allR q.xs).filter (holdL p.facts.xs)):=⟨by rw [hS,hSeH.h];rfl⟩
    have heH:=Hide.mk he;have hRl:(allR q.xs).length≤65536:=by
     have h2:=volG_len (l:=q.xs) (fun k hk=>by rw [getElem!_pos q.xs k hk];exact hwfH.h _ (List.getElem_mem hk)) (List.range q.xs.length) 1 (fun k hk=>List.mem_range.1 hk) (by omega) hv;unfold volT at hv;rw [allR_allC];omega
    have hRlH:=Hide.mk hRl;clear hv hx hS he hRl hH;(repeat' first|simp [*,initEnv]|(apply wpIf_two<;>intro _ h<;>try simp [-Nat.le_zero_eq] at h)|(show wpE 0 (doAppend ..) ..;refine wpE_appW ?_)|(refine after_intro fun v2 H2 hv2 hnx2 hget2 hnew2 hone2 hcel2=>?_))
    refine wp_loopF [(9,10),(43,64)] (fun (i:Nat) env H=>env 10=.pure (.int .i64 i)∧i≤q.xs.length∧GrowV Pt.cells 2 H (env 9) ((q.xs.map lowB).take i)) (fun i=>q.xs.length - i) 0 ?_ ?_ ?_ ?_
    ·decide
    ·exact ⟨by simp,by omega,by simpa using GrowV.nil⟩
    ·simp only [loopFuel];omega
    rintro i env2 H2 ⟨g10,hi2,hv1⟩;generalize g9:env2 9=V at *
    by_cases hlt2:i < q.xs.length
    ·have w1:IntKind.i64.wrap ((i:Int)+1)=(i+1:Nat):=by rw [wrap64 (by omega) (by omega)];omega
     have hltI:(i:Int) < q.xs.length:=by omega
     have hst:=Hide.mk (lowB_take hlt2);have hle:((q.xs.map lowB).take i).length≤12:=by rw [List.length_take,List.length_map];omega
     generalize (q.xs.map lowB).take i=A at *;(repeat' first|simp [*,initEnv,Box.cells,Span.cells,Pt.cells]|(apply wpIf_two<;>intro _ h<;>try simp [-Nat.le_zero_eq] at h)|(show wpE 0 (doAppend ..) ..;refine wpE_appW ?_)|(refine after_intro fun v2 H2 hv2 hnx2 hget2 hnew2 hone2 hcel2=>?_));exact ⟨i+1,by omega,by omega,by omega,hv2.cast hst.h.symm⟩
    ·have hil:i=q.xs.length:=by omega
     rw [hil,List.take_of_length_le (by rw [List.length_map];exact Nat.le_refl _)] at hv1;obtain ⟨B,hB⟩:∃ B,H2.nx=B:=⟨_,rfl⟩
     have hat0:Hide (AtV H2 V (q.xs.map lowB) q.xs.length B):=⟨by
      rcases hv1.1 with ⟨h0,rfl⟩|⟨aid,rfl,hg⟩
      ·rw [List.map_eq_nil_iff] at h0;exact .inl ⟨by rw [h0];rfl,rfl,by rw [h0];rfl⟩
      ·by_cases m0:q.xs.length=0
       ·have h0:q.xs=[]:=List.eq_nil_of_length_eq_zero m0;have:=hv1.2 (by rw [h0];rfl);simp at this
       ·exact .inr ⟨aid,by rw [List.length_map],hg,by rw [List.length_map],by omega,by rw [← hB];exact nx_of_get hg⟩⟩
     have hone:=hv1.1.one;have hw1:=hone.1;have hw2:=hone.2;have hruns:=Hide.mk (runs_allR hwfH.h);clear hv1 hone;(repeat' first|simp [*,initEnv]|(apply wpIf_two<;>intro _ h<;>try simp [-Nat.le_zero_eq] at h)|(show wpE 0 (doAppend ..) ..;refine wpE_appW ?_)|(refine after_intro fun v2 H2 hv2 hnx2 hget2 hnew2 hone2 hcel2=>?_))
     refine wp_loopF [(11,13),(65,80)] (fun (R:List (List Pt)) env H'=>env 12=.pure (.bool (!R.isEmpty))∧∃ (done:List (List Pt)) (c:List Pt),Hide (PaS B H' (env 11) (done.filter (holdL p.facts.xs))∧allR q.xs=done++R∧AtV H' V c q.xs.length B∧(R≠[]→Runs (stepR q.xs) c R)∧B≤H'.nx)) (fun R=>R.length) (allR q.xs) ?_ ?_ ?_ ?_
     ·decide
     ·refine ⟨?_,[],q.xs.map lowB,⟨by simpa using PaS.nil B _,rfl,hat0.h,fun _=>hruns.h,by omega⟩⟩
      have:=hruns.h.ne
      cases hR:allR q.xs with
      | nil=>exact absurd hR this
      | cons a l=>simp
     ·have:=hRlH.h;simp only [loopFuel];omega
     clear hat0;rintro R env3 H3 ⟨g12,done,c,hJ⟩;generalize g11:env3 11=W at *;have hPone:=hJ.h.1.one;have hP1:=hPone.1;have hP2:=hPone.2
     cases R with
     | nil =>
      have hall:=hJ.h.2.1;rw [List.append_nil] at hall;have hP:=hJ.h.1;rw [← hall,← hS2.h] at hP;have hlen:=hP.len;obtain ⟨ids,hids⟩:=hP.res (n:=8);clear hPone hJ hP hall
      by_cases hS0:S=[]
      ·have he9:e=9:=by rw [heH.h,if_pos hS0]
       subst he9;subst hS0;clear heH hS2 hids;simp only [Sl.of_nil,Sl.pv_nil];(repeat' first|simp [*,initEnv]|(apply wpIf_two<;>intro _ h<;>try simp [-Nat.le_zero_eq] at h)|(show wpE 0 (doAppend ..) ..;refine wpE_appW ?_)|(refine after_intro fun v2 H2 hv2 hnx2 hget2 hnew2 hone2 hcel2=>?_))
      ·have he0:e=0:=by rw [heH.h,if_neg hS0]
       subst he0;have hne:¬ (S.length:Int)=0:=fun h=>hS0 (List.eq_nil_of_length_eq_zero (by omega));have hneN:¬ S.length=0:=fun h=>hS0 (List.eq_nil_of_length_eq_zero h);clear heH hS2;generalize (Sl.of S).pv solF 1=sl at *;(repeat' first|simp [*,initEnv]|(apply wpIf_two<;>intro _ h<;>try simp [-Nat.le_zero_eq] at h)|(show wpE 0 (doAppend ..) ..;refine wpE_appW ?_)|(refine after_intro fun v2 H2 hv2 hnx2 hget2 hnew2 hone2 hcel2=>?_))
     | cons c0 R =>
      have hrn:=hJ.h.2.2.2.1 (by simp);have ec:c0=c:=by cases hrn<;>rfl
      subst ec;have hmem:c0∈allR q.xs:=by rw [hJ.h.2.1];simp
      obtain ⟨hcl,hcp⟩:=hinH.h c0 hmem;obtain ⟨s,hsx,hsf⟩:=hJ.h.2.2.1.frz;have hcall:=hhoH.h c0 hmem s hsx;have hBn:=hJ.h.2.2.2.2;have hdl:done.length≤65536:=by
       have:=congrArg List.length hJ.h.2.1;rw [List.length_append] at this;have:=hRlH.h;omega
      have hfl:(done.filter (holdL p.facts.xs)).length≤65536:=Nat.le_trans (List.length_filter_le _ _) hdl;have hnext:Hide ((done++[c0]).filter (holdL p.facts.xs)=done.filter (holdL p.facts.xs)++(if holdL p.facts.xs c0=true then [c0] else [])):=⟨by
       rw [List.filter_append];simp only [List.filter_cons,List.filter_nil]⟩
      have hall:Hide (allR q.xs=(done++[c0])++R):=⟨by rw [hJ.h.2.1];simp⟩
      have hlaterS:Hide (∀ (Hx:Heap) (K:AV→Heap→Prop),AtV Hx V c0 q.xs.length B→(∀ b H',H'.nx ≥ Hx.nx→(∀ j,B≤j→H'.get j=Hx.get j)→(∃ R',(R=R'∧b=!R.isEmpty))→(∃ c1,AtV H' V c1 q.xs.length B∧(R≠[]→Runs (stepR q.xs) c1 R))→K (.pure (.bool b)) H')→∃ v H',Vm.call G (n+10+1) (.fn 95) [.pure (q.pv Box.cells 4),V] Hx=some (v,H')∧K v H'):=⟨by
       intro Hx K hA hK;rcases hA with ⟨m0,hVn,hc0⟩|⟨aid,hVr,hg,hl,hm,hab⟩
       ·rw [hVn] at hK ⊢;obtain ⟨v,H',h1,rfl,rfl⟩:=later_nil (n+10) Hx q;have hq0:q.xs=[]:=List.eq_nil_of_length_eq_zero m0;have hR0:R=[]:=by
         rw [hq0] at hrn
         cases hrn with
         | last=>rfl
         | step _ b _ h _=>simp [stepR] at h
        exact ⟨_,_,h1,hK false _ (Nat.le_refl _) (fun _ _=>rfl) ⟨R,rfl,by rw [hR0];rfl⟩ ⟨c0,.inl ⟨m0,rfl,hc0⟩,fun h=>absurd hR0 h⟩⟩
       ·rw [hVr] at hK ⊢
        refine later_call (n:=n+10) hg hcl hbxH.h hcp nq rfl ?_
        intro b H' t hnx hs hgt htl ht hf;have hat:AtV H' (.row aid 2 0 q.xs.length) t q.xs.length B:=.inr ⟨aid,rfl,hgt,htl,hm,hab⟩
        cases hrn with
        | last _ h0 =>
         cases b with
         | true=>have:=ht rfl;rw [h0] at this;simp at this
         | false=>exact hK false H' hnx (fun j hj=>hs j (by omega)) ⟨[],rfl,rfl⟩ ⟨t,hat,fun h=>absurd rfl h⟩
        | step _ c1 _ h0 hr =>
         cases b with
         | false=>have:=hf rfl;rw [h0] at this;simp at this
         | true =>
          have:=ht rfl;rw [h0] at this;simp only [Option.some.injEq] at this;subst this
          refine hK true H' hnx (fun j hj=>hs j (by omega)) ⟨R,rfl,?_⟩ ⟨c1,hat,fun _=>hr⟩
          have:=hr.ne
          cases R with
          | nil=>exact absurd rfl this
          | cons _ _=>rfl⟩
      have hsc:=hJ.h.2.2.1.cells;have hlb:∀ (Hx:Heap),(∀ j,j < B→Hx.get j=H3.get j)→AtV Hx V c0 q.xs.length B:=fun Hx h=>hJ.h.2.2.1.keep h;have hJP:=Hide.mk hJ.h.1;have hlbH:=Hide.mk hlb;have hscH:=Hide.mk (fun (Hx:Heap) h=>(hlb Hx h).cells);have hcl12:c0.length≤12:=by omega
      have hcallH:=Hide.mk hcall;have hsfH:=Hide.mk hsf;clear hPone hJ hrn hcall hsf hsc hlb hcp hmem hdl;(repeat' first|simp [*,initEnv]|(apply wpIf_two<;>intro _ h<;>try simp [-Nat.le_zero_eq] at h)|(show wpE 0 (doAppend ..) ..;refine wpE_appW ?_)|(refine after_intro fun v2 H2 hv2 hnx2 hget2 hnew2 hone2 hcel2=>?_))
      refine wpE_own (n:=n+11) (caps:=[]) (ps:=[p.facts.pv Fact.cells 9,s.pv Pt.cells 2]) sh96 (.cons (.pure _) (.cons hsfH.h .nil)) hcallH.h rfl ?_
      cases hho:holdL p.facts.xs c0 with
      | true =>
       have hnext2:Hide ((done++[c0]).filter (holdL p.facts.xs)=done.filter (holdL p.facts.xs)++[c0]):=⟨by rw [hnext.h,hho];rfl⟩
       clear hnext hho hcallH hsfH;(repeat' first|simp [*,initEnv]|(apply wpIf_two<;>intro _ h<;>try simp [-Nat.le_zero_eq] at h)|(show wpE 0 (doAppend ..) ..;refine wpE_appW ?_)|(refine after_intro fun v2 H2 hv2 hnx2 hget2 hnew2 hone2 hcel2=>?_))
       refine wpE_appendR (f:=Pt.cells) (sz:=2) (l:=[]) (m:=c0) (id:=H3.nx) (by rw [get_alloc_nx];rfl) rfl (fun _=>rfl) (by decide) (fun _=>rfl) (hscH.h _ fun j hj=>get_alloc_lt (by omega)) (by simp [maxCells];omega) ?_
       intro j4 H4 hj4 hnx4 hs4 hjj4;rw [List.nil_append] at hj4 ⊢;have hj4B:H3.nx≤j4:=by
        rcases hjj4 with h|h
        ·omega
        ·rw [nx_alloc] at h;omega
       have hs43:∀ j,j < H3.nx→H4.get j=H3.get j:=fun j hj=>by rw [hs4 j (by rw [nx_alloc];omega) (by omega),get_alloc_lt hj]
       have hP4:=hJP.h.keep (H':=H4) fun j _ hj=>hs43 j hj;have hnW:¬ Names W j4:=fun hn=>by have:=hJP.h.lt hn;omega
       have hj4n:=nx_of_get hj4;have hnx4':H3.nx≤H4.nx:=by rw [nx_alloc] at hnx4;omega
       have hP4H:=Hide.mk hP4;have hs43H:=Hide.mk hs43;have hj4H:=Hide.mk hj4;have hnWH:=Hide.mk hnW;clear hj4 hnx4 hs4 hjj4 hs43 hP4 hnW;(repeat' first|simp [*,initEnv]|(apply wpIf_two<;>intro _ h<;>try simp [-Nat.le_zero_eq] at h)|(show wpE 0 (doAppend ..) ..;refine wpE_appW ?_)|(refine after_intro fun v2 H2 hv2 hnx2 hget2 hnew2 hone2 hcel2=>?_))
       refine wpE_appendPS (B:=B) (id:=j4) (l:=c0) (hP4H.h.keep fun j _ hj=>get_alloc_lt hj) (by rw [nx_alloc];omega) (by simp [sliceCells,hcl]) (by omega) hnWH.h ((get_alloc_lt hj4n).trans hj4H.h) (by unfold maxCells;omega) ?_
       intro v5 H5 hP5 hnx5 hs5;have hP5H:=Hide.mk hP5;have hs5H:Hide (∀ j,j < B→H5.get j=H3.get j):=⟨fun j hj=>by rw [hs5 j hj,get_alloc_lt (by omega)];exact hs43H.h j (by omega)⟩
       have hnx5':H3.nx≤H5.nx:=by rw [nx_alloc] at hnx5;omega
       have ho5:=hP5.one;have ho5a:=ho5.1;have ho5b:=ho5.2;clear hP5 hnx5 hs5 ho5;(repeat' first|simp [*,initEnv]|(apply wpIf_two<;>intro _ h<;>try simp [-Nat.le_zero_eq] at h)|(show wpE 0 (doAppend ..) ..;refine wpE_appW ?_)|(refine after_intro fun v2 H2 hv2 hnx2 hget2 hnew2 hone2 hcel2=>?_))
       refine wpE_run (n:=n+10) (caps:=[]) sh_later (hlaterS.h _ _ (hlbH.h _ ?_) ?_)
       ·exact fun j hj=>hs5H.h j hj
       rintro b H' hnx' hs' ⟨R',rfl,hb⟩ ⟨c1,hat1,hr1⟩;have hPf:=Hide.mk (hP5H.h.keep (H':=H') fun j h1 _=>hs' j h1);have hr1H:=Hide.mk hr1;have hatH:=Hide.mk hat1;have hBf:Hide (B≤H'.nx):=⟨by omega⟩
       clear hs' hr1 hat1 hlaterS;(repeat' first|simp [*,initEnv]|(apply wpIf_two<;>intro _ h<;>try simp [-Nat.le_zero_eq] at h)|(show wpE 0 (doAppend ..) ..;refine wpE_appW ?_)|(refine after_intro fun v2 H2 hv2 hnx2 hget2 hnew2 hone2 hcel2=>?_));exact ⟨R,by simp,rfl,done++[c0],c1,⟨by rw [hnext2.h];exact hPf.h,hall.h,hatH.h,hr1H.h,hBf.h⟩⟩
      | false =>
       have hnext2:Hide ((done++[c0]).filter (holdL p.facts.xs)=done.filter (holdL p.facts.xs)):=⟨by rw [hnext.h,hho];simp⟩
       clear hnext hho hcallH hsfH;(repeat' first|simp [*,initEnv]|(apply wpIf_two<;>intro _ h<;>try simp [-Nat.le_zero_eq] at h)|(show wpE 0 (doAppend ..) ..;refine wpE_appW ?_)|(refine after_intro fun v2 H2 hv2 hnx2 hget2 hnew2 hone2 hcel2=>?_))
       refine wpE_run (n:=n+10) (caps:=[]) sh_later (hlaterS.h _ _ (hlbH.h _ ?_) ?_)
       ·exact fun j _=>rfl
       rintro b H' hnx' hs' ⟨R',rfl,hb⟩ ⟨c1,hat1,hr1⟩;have hPf:=Hide.mk (hJP.h.keep (H':=H') fun j h1 _=>hs' j h1);have hr1H:=Hide.mk hr1;have hatH:=Hide.mk hat1;have hBf:Hide (B≤H'.nx):=⟨by omega⟩
       clear hs' hr1 hat1 hlaterS;(repeat' first|simp [*,initEnv]|(apply wpIf_two<;>intro _ h<;>try simp [-Nat.le_zero_eq] at h)|(show wpE 0 (doAppend ..) ..;refine wpE_appW ?_)|(refine after_intro fun v2 H2 hv2 hnx2 hget2 hnew2 hone2 hcel2=>?_));exact ⟨R,by simp,rfl,done++[c0],c1,⟨by rw [hnext2.h];exact hPf.h,hall.h,hatH.h,hr1H.h,hBf.h⟩⟩
end Go.Proofs.YtmghcpdpilgplaaGreat.Vm
