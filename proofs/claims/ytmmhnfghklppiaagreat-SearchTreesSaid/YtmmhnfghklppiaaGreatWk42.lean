/- ref3.Beyond: walked. -/
import Derived.Test.YtmmhnfghklppiaaGreatWk41
import Derived.Test.YtmmhnfghklppiaaGreatWk27
namespace Go.Proofs.YtmmhnfghklppiaaGreat.Vm
open Go
set_option linter.unusedSimpArgs false
set_option linter.unusedVariables false
set_option maxHeartbeats 8000000
set_option maxRecDepth 4000
structure xV (p:Problem) (pt k:Nat) (b:Box):Prop where
 hp:pt < p.boxes.xs.length
 hl:p.boxes.xs.length < 1000
 hk:k < 4
 hs:nP (mY b k)
 wf:jl p.boxes.xs[pt]!
 lo:(bz p.boxes.xs[pt]! (k / 2)).lo<=mY b k
 hi:mY b k<=(bz p.boxes.xs[pt]! (k / 2)).hi
theorem sh58:G.shared 58=false:=by decide
theorem e58 (n:Nat) (p:Problem) (pt k:Nat) (b:Box) (h:xV p pt k b):zK G (n+2) 58 [.agg p.cells,.int .i64 (pt:Nat),.agg b.cells,.int .i64 (k:Nat)]=some (.aQ [.agg (aN p pt k b).cells,.bool (zI p.boxes.xs[pt]! b k)]):=by
 refine zz (zy _) rfl g58 rfl ?_
 obtain ⟨hp,hl,hk,hs,IW,jo,tQ⟩:=h;have hpI:(pt:Int) < p.boxes.xs.length:=by omega
 obtain ⟨bs,fs⟩:=p;have uf:pt < bs.xs.length:=hp;have Me:bs.xs.length < 1000:=hl;have bJ:bs.xs≠[]:=fun e=>by rw [e] at uf;simp at uf
 have bA:(aN ⟨bs,fs⟩ pt k b).cells=[(Sl.mk false (bs.xs.set pt (jc bs.xs[pt] b k))).pv Box.cells 4,fs.pv Fact.cells 9]:=by
  unfold aN jF;simp only [Problem.cells];rw [getElem!_pos bs.xs pt uf]
 have Bn:zI (Problem.mk bs fs).boxes.xs[pt]! b k=zI bs.xs[pt] b k:=by
  show zI bs.xs[pt]! b k=_;rw [getElem!_pos bs.xs pt uf]
 have Lm:jl bs.xs[pt]:=by have h1:jl bs.xs[pt]! := IW;rwa [getElem!_pos bs.xs pt uf] at h1
 have tC:(bz bs.xs[pt] (k / 2)).lo<=mY b k:=by have h1:(bz bs.xs[pt]! (k / 2)).lo<=mY b k:=jo;rwa [getElem!_pos bs.xs pt uf] at h1
 have tF:mY b k<=(bz bs.xs[pt] (k / 2)).hi:=by have h1:mY b k<=(bz bs.xs[pt]! (k / 2)).hi:=tQ;rwa [getElem!_pos bs.xs pt uf] at h1
 rw [bA,Bn];clear bA Bn hp hl IW jo tQ;have nW:k=0\/k=1\/k=2\/k=3:=by omega
 rcases nW with rfl|rfl|rfl|rfl
 .unfold nP mY at hs;unfold mY at tC tF;unfold jl at Lm;simp only [bz] at hs tC tF;simp at tC tF;have w1:IntKind.i64.wrap (b.x.lo - 1)=(b.x.lo - 1):=wrap64 (by omega) (by omega);have hm:min bs.xs[pt].x.hi (b.x.lo - 1)=(b.x.lo - 1):=by omega
  have hB:jc bs.xs[pt] b 0=⟨⟨bs.xs[pt].x.lo,(b.x.lo - 1)⟩,bs.xs[pt].y⟩:=by simp [jc,mG,bz];omega
  have hS:zI bs.xs[pt] b 0=decide (bs.xs[pt].x.lo<=(b.x.lo - 1)):=by unfold zI;rw [hB];simp [bz]
  have PY:bs.xs[pt].y.lo<=bs.xs[pt].y.hi:=by omega
  rw [hB,hS];have pin:=TT uf;(repeat' first|simp [*,zb,c58,Problem.cells,Box.cells,Span.cells]|(apply za<;>intro _ h<;>try simp [-Nat.le_zero_eq] at h))
  refine WH (f:=Box.cells) (sz:=4) (l:=bs.xs) (Kr (f:=Box.cells) (sz:=4) (fun _=>rfl) _) (by simp) (fun _=>rfl) (by simp only [zo];omega) ?_
  intro v H1 hv bX ah aR;obtain ⟨fQ,rfl,hg⟩:=hv.row bJ;have hr:=aR fQ ⟨_,_,_,rfl⟩;simp at hr bX;have k1:=ah 0 (by simp);simp at k1;have wD:=zx hg;have vB:fQ≠0:=by rcases hr with h|h<;>omega
  have DD:0≠fQ:=by omega
  have vS:0 < H1.nx:=by omega
  have UY:fQ≠H1.nx:=by omega
  have PZ:H1.nx≠fQ:=by omega
  have XJ:0≠H1.nx:=by omega
  have P5:H1.nx≠0:=by omega
  have e3:pt*4+2+1=pt*4+3:=rfl;have DK:fQ < H1.nx+1:=by omega
  have Ad:0 < H1.nx+1:=by omega
  clear hv ah aR bX;obtain ⟨ids,jk⟩:=(fun w o o1 o2=>FrzK.iA (n:=10) (.cons (sO (n:=8) (f:=Box.cells) (sz:=4) (l:=bs.xs.set pt w) (m:=bs.xs.length) (fun _=>rfl) (by rw [zf vB,zn (by rw [mi,rC];exact DK)]) (by simp)) (.cons (.pure (fs.pv Fact.cells 9)) .nil)) :
   ∀ (w:Box) (o o1 o2:aU),FrzK ((((H1.alloc o).set H1.nx o1).set fQ (.cells true (zq Box.cells (bs.xs.set pt w)))).set 0 o2) false 11 (iA [.row fQ 4 0 bs.xs.length,.pure (fs.pv Fact.cells 9)]) (.agg [(Sl.mk false (bs.xs.set pt w)).pv Box.cells 4,fs.pv Fact.cells 9])) ⟨⟨bs.xs[pt].x.lo,(b.x.lo - 1)⟩,bs.xs[pt].y⟩ (.cells true [.pure .nils,.pure .nils]) (.cells true [.row fQ 4 0 bs.xs.length,.pure (fs.pv Fact.cells 9)]) (.cells true [.row fQ 4 0 bs.xs.length,.pure (fs.pv Fact.cells 9)])
  (repeat' first|simp [*,zb,Box.cells,Span.cells]|(apply za<;>intro _ h<;>try simp [-Nat.le_zero_eq] at h))
 .unfold nP mY at hs;unfold mY at tC tF;unfold jl at Lm;simp only [bz] at hs tC tF;simp at tC tF;have w1:IntKind.i64.wrap (b.x.hi+1)=(b.x.hi+1):=wrap64 (by omega) (by omega);have hm:max bs.xs[pt].x.lo (b.x.hi+1)=(b.x.hi+1):=by omega
  have hB:jc bs.xs[pt] b 1=⟨⟨(b.x.hi+1),bs.xs[pt].x.hi⟩,bs.xs[pt].y⟩:=by simp [jc,mG,bz];omega
  have hS:zI bs.xs[pt] b 1=decide ((b.x.hi+1)<=bs.xs[pt].x.hi):=by unfold zI;rw [hB];simp [bz]
  have PY:bs.xs[pt].y.lo<=bs.xs[pt].y.hi:=by omega
  rw [hB,hS];have pin:=TS uf;(repeat' first|simp [*,zb,c58,Problem.cells,Box.cells,Span.cells]|(apply za<;>intro _ h<;>try simp [-Nat.le_zero_eq] at h))
  refine WH (f:=Box.cells) (sz:=4) (l:=bs.xs) (Kr (f:=Box.cells) (sz:=4) (fun _=>rfl) _) (by simp) (fun _=>rfl) (by simp only [zo];omega) ?_
  intro v H1 hv bX ah aR;obtain ⟨fQ,rfl,hg⟩:=hv.row bJ;have hr:=aR fQ ⟨_,_,_,rfl⟩;simp at hr bX;have k1:=ah 0 (by simp);simp at k1;have wD:=zx hg;have vB:fQ≠0:=by rcases hr with h|h<;>omega
  have DD:0≠fQ:=by omega
  have vS:0 < H1.nx:=by omega
  have UY:fQ≠H1.nx:=by omega
  have PZ:H1.nx≠fQ:=by omega
  have XJ:0≠H1.nx:=by omega
  have P5:H1.nx≠0:=by omega
  have e3:pt*4+2+1=pt*4+3:=rfl;have DK:fQ < H1.nx+1:=by omega
  have Ad:0 < H1.nx+1:=by omega
  clear hv ah aR bX;obtain ⟨ids,jk⟩:=(fun w o o1 o2=>FrzK.iA (n:=10) (.cons (sO (n:=8) (f:=Box.cells) (sz:=4) (l:=bs.xs.set pt w) (m:=bs.xs.length) (fun _=>rfl) (by rw [zf vB,zn (by rw [mi,rC];exact DK)]) (by simp)) (.cons (.pure (fs.pv Fact.cells 9)) .nil)) :
   ∀ (w:Box) (o o1 o2:aU),FrzK ((((H1.alloc o).set H1.nx o1).set fQ (.cells true (zq Box.cells (bs.xs.set pt w)))).set 0 o2) false 11 (iA [.row fQ 4 0 bs.xs.length,.pure (fs.pv Fact.cells 9)]) (.agg [(Sl.mk false (bs.xs.set pt w)).pv Box.cells 4,fs.pv Fact.cells 9])) ⟨⟨(b.x.hi+1),bs.xs[pt].x.hi⟩,bs.xs[pt].y⟩ (.cells true [.pure .nils,.pure .nils]) (.cells true [.row fQ 4 0 bs.xs.length,.pure (fs.pv Fact.cells 9)]) (.cells true [.row fQ 4 0 bs.xs.length,.pure (fs.pv Fact.cells 9)])
  (repeat' first|simp [*,zb,Box.cells,Span.cells]|(apply za<;>intro _ h<;>try simp [-Nat.le_zero_eq] at h))
 .unfold nP mY at hs;unfold mY at tC tF;unfold jl at Lm;simp only [bz] at hs tC tF;simp at tC tF;have w1:IntKind.i64.wrap (b.y.lo - 1)=(b.y.lo - 1):=wrap64 (by omega) (by omega);have hm:min bs.xs[pt].y.hi (b.y.lo - 1)=(b.y.lo - 1):=by omega
  have hB:jc bs.xs[pt] b 2=⟨bs.xs[pt].x,⟨bs.xs[pt].y.lo,(b.y.lo - 1)⟩⟩:=by simp [jc,mG,bz];omega
  have hS:zI bs.xs[pt] b 2=decide (bs.xs[pt].y.lo<=(b.y.lo - 1)):=by unfold zI;rw [hB];simp [bz]
  have PY:bs.xs[pt].x.lo<=bs.xs[pt].x.hi:=by omega
  rw [hB,hS];have pin:=TV uf;(repeat' first|simp [*,zb,c58,Problem.cells,Box.cells,Span.cells]|(apply za<;>intro _ h<;>try simp [-Nat.le_zero_eq] at h))
  refine WH (f:=Box.cells) (sz:=4) (l:=bs.xs) (Kr (f:=Box.cells) (sz:=4) (fun _=>rfl) _) (by simp) (fun _=>rfl) (by simp only [zo];omega) ?_
  intro v H1 hv bX ah aR;obtain ⟨fQ,rfl,hg⟩:=hv.row bJ;have hr:=aR fQ ⟨_,_,_,rfl⟩;simp at hr bX;have k1:=ah 0 (by simp);simp at k1;have wD:=zx hg;have vB:fQ≠0:=by rcases hr with h|h<;>omega
  have DD:0≠fQ:=by omega
  have vS:0 < H1.nx:=by omega
  have UY:fQ≠H1.nx:=by omega
  have PZ:H1.nx≠fQ:=by omega
  have XJ:0≠H1.nx:=by omega
  have P5:H1.nx≠0:=by omega
  have e3:pt*4+2+1=pt*4+3:=rfl;have DK:fQ < H1.nx+1:=by omega
  have Ad:0 < H1.nx+1:=by omega
  clear hv ah aR bX;obtain ⟨ids,jk⟩:=(fun w o o1 o2=>FrzK.iA (n:=10) (.cons (sO (n:=8) (f:=Box.cells) (sz:=4) (l:=bs.xs.set pt w) (m:=bs.xs.length) (fun _=>rfl) (by rw [zf vB,zn (by rw [mi,rC];exact DK)]) (by simp)) (.cons (.pure (fs.pv Fact.cells 9)) .nil)) :
   ∀ (w:Box) (o o1 o2:aU),FrzK ((((H1.alloc o).set H1.nx o1).set fQ (.cells true (zq Box.cells (bs.xs.set pt w)))).set 0 o2) false 11 (iA [.row fQ 4 0 bs.xs.length,.pure (fs.pv Fact.cells 9)]) (.agg [(Sl.mk false (bs.xs.set pt w)).pv Box.cells 4,fs.pv Fact.cells 9])) ⟨bs.xs[pt].x,⟨bs.xs[pt].y.lo,(b.y.lo - 1)⟩⟩ (.cells true [.pure .nils,.pure .nils]) (.cells true [.row fQ 4 0 bs.xs.length,.pure (fs.pv Fact.cells 9)]) (.cells true [.row fQ 4 0 bs.xs.length,.pure (fs.pv Fact.cells 9)])
  simp [*,zb,Box.cells,Span.cells]
 .unfold nP mY at hs;unfold mY at tC tF;unfold jl at Lm;simp only [bz] at hs tC tF;simp at tC tF;have w1:IntKind.i64.wrap (b.y.hi+1)=(b.y.hi+1):=wrap64 (by omega) (by omega);have hm:max bs.xs[pt].y.lo (b.y.hi+1)=(b.y.hi+1):=by omega
  have hB:jc bs.xs[pt] b 3=⟨bs.xs[pt].x,⟨(b.y.hi+1),bs.xs[pt].y.hi⟩⟩:=by simp [jc,mG,bz];omega
  have hS:zI bs.xs[pt] b 3=decide ((b.y.hi+1)<=bs.xs[pt].y.hi):=by unfold zI;rw [hB];simp [bz]
  have PY:bs.xs[pt].x.lo<=bs.xs[pt].x.hi:=by omega
  rw [hB,hS];have pin:=TU uf;(repeat' first|simp [*,zb,c58,Problem.cells,Box.cells,Span.cells]|(apply za<;>intro _ h<;>try simp [-Nat.le_zero_eq] at h))
  refine WH (f:=Box.cells) (sz:=4) (l:=bs.xs) (Kr (f:=Box.cells) (sz:=4) (fun _=>rfl) _) (by simp) (fun _=>rfl) (by simp only [zo];omega) ?_
  intro v H1 hv bX ah aR;obtain ⟨fQ,rfl,hg⟩:=hv.row bJ;have hr:=aR fQ ⟨_,_,_,rfl⟩;simp at hr bX;have k1:=ah 0 (by simp);simp at k1;have wD:=zx hg;have vB:fQ≠0:=by rcases hr with h|h<;>omega
  have DD:0≠fQ:=by omega
  have vS:0 < H1.nx:=by omega
  have UY:fQ≠H1.nx:=by omega
  have PZ:H1.nx≠fQ:=by omega
  have XJ:0≠H1.nx:=by omega
  have P5:H1.nx≠0:=by omega
  have e3:pt*4+2+1=pt*4+3:=rfl;have DK:fQ < H1.nx+1:=by omega
  have Ad:0 < H1.nx+1:=by omega
  clear hv ah aR bX;obtain ⟨ids,jk⟩:=(fun w o o1 o2=>FrzK.iA (n:=10) (.cons (sO (n:=8) (f:=Box.cells) (sz:=4) (l:=bs.xs.set pt w) (m:=bs.xs.length) (fun _=>rfl) (by rw [zf vB,zn (by rw [mi,rC];exact DK)]) (by simp)) (.cons (.pure (fs.pv Fact.cells 9)) .nil)) :
   ∀ (w:Box) (o o1 o2:aU),FrzK ((((H1.alloc o).set H1.nx o1).set fQ (.cells true (zq Box.cells (bs.xs.set pt w)))).set 0 o2) false 11 (iA [.row fQ 4 0 bs.xs.length,.pure (fs.pv Fact.cells 9)]) (.agg [(Sl.mk false (bs.xs.set pt w)).pv Box.cells 4,fs.pv Fact.cells 9])) ⟨bs.xs[pt].x,⟨(b.y.hi+1),bs.xs[pt].y.hi⟩⟩ (.cells true [.pure .nils,.pure .nils]) (.cells true [.row fQ 4 0 bs.xs.length,.pure (fs.pv Fact.cells 9)]) (.cells true [.row fQ 4 0 bs.xs.length,.pure (fs.pv Fact.cells 9)])
  simp [*,zb,Box.cells,Span.cells]
end Go.Proofs.YtmmhnfghklppiaaGreat.Vm
