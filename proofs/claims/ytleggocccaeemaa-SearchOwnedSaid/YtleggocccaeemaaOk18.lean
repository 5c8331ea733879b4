/- How many solutions there are, whichever way they are gone through. Plain Lean. -/
import Derived.Test.YtleggocccaeemaaOk15
namespace Go.Proofs.Ytleggocccaeemaa.Vm
open Go
set_option linter.unusedSimpArgs false
set_option linter.unusedVariables false
set_option maxHeartbeats 4000000
theorem zgD {α:Type}:∀ (l m:List α),l.Nodup->(∀ a∈l,a∈m)->l.length<=m.length
 | [],m,_,_=>Nat.zero_le _
 | a::l,m,hn,hs=>by
  obtain ⟨s,t,rfl⟩:=List.append_of_mem (hs a (List.mem_cons_self ..));have hn':=List.nodup_cons.1 hn;have:=zgD l (s++t) hn'.2 fun b hb=>by
   have:=hs b (List.mem_cons_of_mem _ hb);simp only [List.mem_append,List.mem_cons] at this ⊢;rcases this with h|rfl|h
   ·exact .inl h
   ·exact absurd hb hn'.1
   ·exact .inr h
  simp only [List.length_append,List.length_cons] at *;omega
theorem zoj {α:Type} {l m:List α} (hl:l.Nodup) (hm:m.Nodup) (h:∀ a,a∈l↔a∈m):l.length=m.length :=
 Nat.le_antisymm (zgD l m hl fun a ha=>(h a).1 ha) (zgD m l hm fun a ha=>(h a).2 ha)
theorem zdd {α β:Type} {f:α->List β}:∀ {l:List α},l.Nodup->(∀ a∈l,(f a).Nodup)->(∀ a∈l,∀ b∈l,∀ x,x∈f a->x∈f b->a=b)->(l.flatMap f).Nodup
 | [],_,_,_=>by simp
 | a::l,hn,h1,h2=>by
  have hn':=List.nodup_cons.1 hn;rw [List.flatMap_cons,List.nodup_append]
  refine ⟨h1 a (List.mem_cons_self ..),zdd hn'.2 (fun b hb=>h1 b (List.mem_cons_of_mem _ hb)) (fun b hb c hc=>h2 b (List.mem_cons_of_mem _ hb) c (List.mem_cons_of_mem _ hc)),fun x hx y hy e=>?_⟩
  subst e;obtain ⟨b,hb,hxb⟩:=List.mem_flatMap.1 hy;have:=h2 a (List.mem_cons_self ..) b (List.mem_cons_of_mem _ hb) x hx hxb;subst this;exact hn'.1 hb
theorem zdx {α β:Type} {f:α->β} (hf:∀ a b,f a=f b->a=b) {l:List α} (h:l.Nodup):(l.map f).Nodup:=by
 unfold List.Nodup at *;rw [List.pairwise_map];exact h.imp fun hab e=>hab (hf _ _ e)
theorem zgr (s:Span):(zer s).Nodup:=zdx (fun a b h=>by omega) List.nodup_range
theorem ze1 (b:Box):(zao b).Nodup:=by
 unfold zao
 refine zdd (zgr _) (fun x _=>zdx (fun a b h=>by simpa using h) (zgr _)) fun x _ x' _ p hp hp'=>?_
 obtain ⟨_,_,rfl⟩:=List.mem_map.1 hp;obtain ⟨_,_,h⟩:=List.mem_map.1 hp';simp at h;exact h.1.symm
theorem zgl (l:List Box):∀ part,(allC l part).Nodup
 | []=>by simp [allC]
 | i::rest=>by
  rw [allC]
  refine zdd (ze1 _) (fun x _=>zdx (fun a b h=>by simpa using h) (zgl l rest)) fun x _ x' _ c hc hc'=>?_
  obtain ⟨_,_,rfl⟩:=List.mem_map.1 hc;obtain ⟨_,_,h⟩:=List.mem_map.1 hc';simp at h;exact h.1.symm
theorem zk8 (facts:List Fact) (l:List Box) (part:List Nat):(zal facts l part).Nodup:=by
 unfold zal;rw [zc2];exact (zgl l part).filter _
def zhr {α:Type}:List (List α)->List (List α)
 | []=>[[]]
 | s::ss=>s.flatMap fun c=>(zhr ss).map (c :: ·)
theorem mem_prodC {α:Type}:∀ {ss:List (List α)} {cs:List α},cs∈zhr ss↔cs.length=ss.length/\∀ k (h:k < ss.length) (h':k < cs.length),cs[k]∈ss[k]
 | [],cs=>by
  simp only [zhr,List.mem_singleton,List.length_nil]
  constructor
  ·rintro rfl;exact ⟨rfl,fun k h=>by simp at h⟩
  ·rintro ⟨h,_⟩;exact List.eq_nil_of_length_eq_zero h
 | s::ss,cs=>by
  simp only [zhr,List.mem_flatMap,List.mem_map]
  constructor
  ·rintro ⟨x,hx,d,hd,rfl⟩;obtain ⟨h1,h2⟩:=(mem_prodC (ss:=ss)).1 hd
   refine ⟨by simp [h1],fun k h h'=>?_⟩
   cases k with
   | zero=>exact hx
   | succ k=>exact h2 k (by simpa using h) (by simpa using h')
  ·rintro ⟨h1,h2⟩
   cases cs with
   | nil=>simp at h1
   | cons x d=>exact ⟨x,h2 0 (by simp) (by simp),d,(mem_prodC (ss:=ss)).2 ⟨by simpa using h1,fun k h h'=>h2 (k+1) (by simp;omega) (by simp;omega)⟩,rfl⟩
def pick (pts:List Pt) (part:List Nat):List Pt:=part.map fun i=>pts[i]!
structure IsSol (facts:List Fact) (l:List Box) (pts:List Pt):Prop where
 len:pts.length=l.length
 inn:∀ i (h:i < pts.length) (h':i < l.length),inB' pts[i] l[i]
 facts:∀ f∈facts,zQ f (pts.map atB)=false
structure IsDiv (facts:List Fact) (n:Nat) (gs:List (List Nat)):Prop where
 nodup:gs.flatten.Nodup
 all:∀ i,i < n↔i∈gs.flatten
 within:∀ f∈facts,∀ g∈gs,f.a.toNat∈g->Within g f
 named:∀ f∈facts,Named f n
theorem IsDiv.one {facts:List Fact} {n:Nat} {gs:List (List Nat)} (h:IsDiv facts n gs):∀ g∈gs,g.Nodup/\∀ i∈g,i < n:=fun g hg =>
 ⟨(List.pairwise_flatten.1 h.nodup).1 g hg,fun i hi=>(h.all i).2 (List.mem_flatten.2 ⟨g,hg,hi⟩)⟩
theorem zlt {facts:List Fact} {l:List Box} {part:List Nat} {pts:List Pt} (hp:pts.length=l.length) (hn:part.Nodup) (hi:∀ i∈part,i < l.length) {f:Fact} (hw:Within part f):zQ f (zaK part (pick pts part) l)=zQ f (pts.map atB):=by
 have key:∀ j∈part,(zaK part (pick pts part) l)[j]! = (pts.map atB)[j]! := fun j hj=>by
  obtain ⟨k,hk,rfl⟩:=List.mem_iff_getElem.1 hj;have hkp:k < (pick pts part).length:=by simpa [pick] using hk
  rw [zhY part _ l hn (by simp [pick]) hi k hk hkp];have:=hi _ hj;have h2:part[k] < pts.length:=by omega
  rw [getElem!_pos (pts.map atB) part[k] (by simpa using h2)];simp only [pick,List.getElem_map];rw [getElem!_pos pts part[k] h2]
 exact zc1 ⟨key _ hw.a,key _ hw.b,fun h2=>key _ (hw.c h2)⟩
def za7:List (List Nat)->List (List Pt)->List Pt->List Pt
 | g::gs,c::cs,pts=>za7 gs cs ((g.zip c).foldl (fun p e=>p.set e.1 e.2) pts)
 | _,_,pts=>pts
theorem zch:∀ (z:List (Nat×Pt)) (pts:List Pt),(z.foldl (fun p e=>p.set e.1 e.2) pts).length=pts.length
 | [],_=>rfl
 | e::z,pts=>by rw [List.foldl_cons,zch z];simp
theorem zb7:∀ (gs:List (List Nat)) (cs:List (List Pt)) (pts:List Pt),(za7 gs cs pts).length=pts.length
 | [],_,_=>by simp [za7]
 | _::_,[],_=>by simp [za7]
 | g::gs,c::cs,pts=>by rw [za7,zb7 gs cs,zch]
theorem zgN:∀ (z:List (Nat×Pt)) (pts:List Pt) (j:Nat),j ∉ z.map (·.1)->(z.foldl (fun p e=>p.set e.1 e.2) pts)[j]! = pts[j]!
 | [],_,_,_=>rfl
 | e::z,pts,j,h=>by
  rw [List.map_cons] at h;rw [List.foldl_cons,zgN z _ j (fun hm=>h (List.mem_cons_of_mem _ hm))];have:e.1≠j:=fun e'=>h (by rw [e'];exact List.mem_cons_self ..);simp [List.getElem?_set,this]
theorem zlU:∀ (g:List Nat) (c:List Pt) (pts:List Pt),g.Nodup->c.length=g.length->(∀ i∈g,i < pts.length)->pick ((g.zip c).foldl (fun p e=>p.set e.1 e.2) pts) g=c
 | [],c,pts,_,hc,_=>by simp [pick,List.eq_nil_of_length_eq_zero hc]
 | _::_,[],_,_,hc,_=>by simp at hc
 | i::g,x::c,pts,hn,hc,hi=>by
  have hn':=List.nodup_cons.1 hn;rw [List.zip_cons_cons,List.foldl_cons];have ih:=zlU g c (pts.set i x) hn'.2 (by simpa using hc) (fun j hj=>by rw [List.length_set];exact hi j (List.mem_cons_of_mem _ hj));unfold pick at *;rw [List.map_cons,ih]
  congr 1
  rw [zgN]
  ·have:=hi i (List.mem_cons_self ..);simp [List.getElem?_set,this]
  ·intro hm;have:i∈g:=by
    obtain ⟨e,he,h1⟩:=List.mem_map.1 hm;have:=List.of_mem_zip he;rw [<- h1];exact this.1
   exact hn'.1 this
theorem zgp:∀ (gs:List (List Nat)) (cs:List (List Pt)) (pts:List Pt) (j:Nat),j ∉ gs.flatten->(za7 gs cs pts)[j]! = pts[j]!
 | [],_,_,_,_=>by simp [za7]
 | _::_,[],_,_,_=>by simp [za7]
 | g::gs,c::cs,pts,j,h=>by
  rw [List.flatten_cons] at h;rw [za7,zgp gs cs _ j (fun hm=>h (List.mem_append_right _ hm)),zgN];intro hm;obtain ⟨e,he,h1⟩:=List.mem_map.1 hm;have:=List.of_mem_zip he;exact h (List.mem_append_left _ (by rw [<- h1];exact this.1))
theorem zih:∀ (gs:List (List Nat)) (cs:List (List Pt)) (pts:List Pt),gs.flatten.Nodup->cs.length=gs.length->(∀ k (h:k < gs.length) (h':k < cs.length),cs[k].length=gs[k].length)->(∀ i∈gs.flatten,i < pts.length) ->
  ∀ k (h:k < gs.length) (h':k < cs.length),pick (za7 gs cs pts) gs[k]=cs[k]
 | [],_,_,_,_,_,_,k,h,_=>by simp at h
 | _::_,[],_,_,hc,_,_,_,_,_=>by simp at hc
 | g::gs,c::cs,pts,hn,hc,hl,hi,k,h,h'=>by
  rw [za7];rw [List.flatten_cons,List.nodup_append] at hn;obtain ⟨n1,n2,n3⟩:=hn
  cases k with
  | zero =>
   have h1:=zlU g c pts n1 (hl 0 (by simp) (by simp)) (fun i hi'=>hi i (by rw [List.flatten_cons];exact List.mem_append_left _ hi'))
   refine Eq.trans ?_ h1
   unfold pick;exact List.map_congr_left fun i hi'=>zgp gs cs _ i (fun hm=>n3 i hi' i hm rfl)
  | succ k =>
   exact zih gs cs _ n2 (by simpa using hc) (fun j a b=>hl (j+1) (by simp;omega) (by simp;omega)) (fun i hi'=>by rw [zch];exact hi i (by rw [List.flatten_cons];exact List.mem_append_right _ hi')) k (by simpa using h) (by simpa using h')
theorem zlJ {facts:List Fact} {l:List Box} {gs:List (List Nat)} (hd:IsDiv facts l.length gs) {cs:List (List Pt)} (hc:cs∈zhr (gs.map (zal facts l))) {p0:List Pt} (h0:p0.length=l.length):IsSol facts l (za7 gs cs p0)/\gs.map (pick (za7 gs cs p0))=cs:=by
 obtain ⟨h1,h2⟩:=mem_prodC.1 hc;simp only [List.length_map] at h1;have hs:∀ k (h:k < gs.length) (h':k < cs.length),cs[k]∈zal facts l gs[k]:=fun k h h'=>by
  have:=h2 k (by simpa using h) h'
  simpa using this
 have hm:∀ k (h:k < gs.length) (h':k < cs.length),_:=fun k h h'=>(zeV (facts:=facts) (l:=l) (hd.one _ (List.getElem_mem h)).1 (fun f hf ha=>hd.within f hf _ (List.getElem_mem h) ha)).1 (hs k h h');have hp:=zih gs cs p0 hd.nodup h1 (fun k h h'=>(hm k h h').1.1) (fun i hi=>by rw [h0];exact (hd.all i).2 hi);have hlen:=zb7 gs cs p0;generalize za7 gs cs p0=pts at *;have hpl:pts.length=l.length:=by omega
 refine ⟨⟨hpl,fun i hi hi'=>?_,fun f hf=>?_⟩,?_⟩
 ·obtain ⟨g,hg,hig⟩:=List.mem_flatten.1 ((hd.all i).1 hi');obtain ⟨k,hk,rfl⟩:=List.mem_iff_getElem.1 hg;obtain ⟨j,hj,rfl⟩:=List.mem_iff_getElem.1 hig;have hkc:k < cs.length:=by omega
  have hmk:=hm k hk hkc;have hjc:j < (cs[k]).length:=by rw [hmk.1.1];exact hj
  have h3:=hmk.1.2 j hj hjc;have h4:=hp k hk hkc;have h5:cs[k][j]=pts[gs[k][j]]:=by
   have:(pick pts gs[k])[j]'(by simpa [pick] using hj)=cs[k][j]:=by simp only [h4]
   rw [<- this];simp only [pick,List.getElem_map];rw [getElem!_pos pts gs[k][j] hi]
  rw [h5,getElem!_pos l gs[k][j] hi'] at h3;exact h3
 ·have hA:=(hd.named f hf).a;obtain ⟨g,hg,hag⟩:=List.mem_flatten.1 ((hd.all f.a.toNat).1 (by omega));obtain ⟨k,hk,rfl⟩:=List.mem_iff_getElem.1 hg;have hkc:k < cs.length:=by omega
  obtain ⟨hn,hi⟩:=hd.one _ hg;have h3:=(hm k hk hkc).2 f hf hag;rw [<- hp k hk hkc,zlt (facts:=facts) hpl hn hi (hd.within f hf _ hg hag)] at h3;exact h3
 ·refine List.ext_getElem (by simp [h1]) fun k a b=>?_
  simpa using hp k (by simpa using a) b
end Go.Proofs.Ytleggocccaeemaa.Vm
