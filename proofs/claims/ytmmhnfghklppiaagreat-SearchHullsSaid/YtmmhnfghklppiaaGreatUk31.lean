/- with, further and Decide: the program's, walked. Few, boxes, ints, With and lies of the laws, walked. -/
import Derived.Test.YtmmhnfghklppiaaGreatUk25
import Derived.Test.YtmmhnfghklppiaaGreatUk17
namespace Go.Proofs.YtmmhnfghklppiaaGreat.Vm
open Go
set_option linter.unusedSimpArgs false
set_option linter.unusedVariables false
set_option maxHeartbeats 4000000
set_option maxRecDepth 4000
theorem zka {r:Option Eff} {H:Heap} {x:AV} {k:AV->Heap->Prop} {u} (h:∃ v H',r=some (.upd v H')/\keeps H H' x=true/\k v H'):wpE 0 (match (generalizing:=false) r with
  | some (.upd v H2)=>if keeps H H2 x=true then some (.upd v H2) else none
  | _=>none) H k u:=by
 obtain ⟨v,H',rfl,h2,h3⟩:=h;simp only [h2,if_true,Lp];exact h3
theorem ziT {n f:Nat} {H:Heap} {args:List AV} {P:AV->Heap->Prop} (hs:G.shared f=true) (h:∃ v H',Vm.call G (n+1) (.fn f) args H=some (v,H')/\P v H'):∃ v H',zG (zt G (n+1)) H (.pure (.func f [])) args=some (.upd v H')/\P v H':=by
 obtain ⟨v,H',h1,h2⟩:=h
 refine ⟨v,H',?_,h2⟩
 have oH:(zt G (n+1)).shared f=true:=hs;have uP:(zt G (n+1)).run f args H=some (v,H'):=h1;simp only [zG,List.map_nil,List.append_nil,oH,if_true,uP]
theorem sh26:G.shared 26=false:=by decide
theorem e26 (n:Nat) (a b:Sl Box) (h:a.xs=b.xs) (hl:a.xs.length<=100):zF G (n+1) 26 [a.pv Box.cells 4,b.pv Box.cells 4]=some (.bool true):=by
 refine zy (zx _) rfl g26 rfl ?_
 have Zi:b.xs.length=a.xs.length:=by rw [h]
 have hg:Hide (∀ i (h1:i < a.xs.length) (h2:i < b.xs.length),b.xs[i]=a.xs[i]):=⟨fun i h1 h2=>by simp only [h]⟩
 clear h;(repeat' first|simp [*,zb,c26]|(apply za<;>intro _ h<;>try simp [-Nat.le_zero_eq] at h))
 refine zA [(4,5),(11,25)] (fun (i:Nat) env H=>env 5=.pure (.int .i64 i)/\i<=a.xs.length) (fun i=>a.xs.length - i) 0 ?_ ?_ ?_ ?_
 .decide
 .exact ⟨by simp,by omega⟩
 .simp only [zz];omega
 rintro i env H ⟨g5,hi⟩
 by_cases aK:i < a.xs.length
 .have w1:IntKind.i64.wrap ((i:Int)+1)=(i+1:Nat):=by rw [wrap64 (by omega) (by omega)];omega
  have jM:(i:Int) < a.xs.length:=by omega
  have jT:i < b.xs.length:=by omega
  have ge:=hg.h i aK jT;(repeat' first|simp [*,zb,Box.cells,Span.cells,N8,uN,xG]|(apply za<;>intro _ h<;>try simp [-Nat.le_zero_eq] at h));exact ⟨i+1,by omega,by omega,by omega⟩
 .have qy:i=a.xs.length:=by omega
  subst qy;simp [*,zb]
def OC (b:Box):Bool:=mJ b&&(decide (60 < b.x.hi - b.x.lo)||decide (60 < b.y.hi - b.y.lo))
def pX (p:Problem):Bool:=decide (p.boxes.xs.length<=5)&&decide (p.facts.xs.length<=16)&&p.boxes.xs.all fun b=>!OC b
def zsm (l:List Box) (i:Nat):Prop:=∀ j (h:j < l.length),j < i->OC l[j]=false
theorem sh10:G.shared 10=false:=by decide
theorem e10 (n:Nat) (p:Problem):zF G (n+3) 10 [.agg p.cells]=some (.bool (pX p)):=by
 refine zy (zx _) rfl g10 rfl ?_
 obtain ⟨bs,fs⟩:=p;have WG:Hide (∀ b:Box,∀ H,zG (zt G (n+2)) H (.pure (.func 37 [])) [.pure (.agg b.cells)]=some (.val (.pure (.bool (mJ b))))):=⟨fun b H=>zf (caps:=[]) (ps:=[_]) sh37 (e37 n b)⟩
 by_cases h1:5 < bs.xs.length
 .have YT:(5:Int) < bs.xs.length:=by omega
  have hR:pX ⟨bs,fs⟩=false:=by
   have:decide (bs.xs.length<=5)=false:=by simp;omega
   simp [pX,this]
  rw [hR];simp [*,zb,c10,Problem.cells]
 have YT:¬ (5:Int) < bs.xs.length:=by omega
 by_cases h2:16 < fs.xs.length
 .have h2I:(16:Int) < fs.xs.length:=by omega
  have hR:pX ⟨bs,fs⟩=false:=by
   have:decide (fs.xs.length<=16)=false:=by simp;omega
   simp [pX,this]
  rw [hR];simp [*,zb,c10,Problem.cells]
 have h2I:¬ (16:Int) < fs.xs.length:=by omega
 have QK:Hide (pX ⟨bs,fs⟩=bs.xs.all fun b=>!OC b):=⟨by
  have a1:decide (bs.xs.length<=5)=true:=by simp;omega
  have a2:decide (fs.xs.length<=16)=true:=by simp;omega
  simp [pX,a1,a2]⟩
 generalize hR:pX ⟨bs,fs⟩=R;rw [hR] at QK;clear hR;(repeat' first|simp [*,zb,c10,Problem.cells]|(apply za<;>intro _ h<;>try simp [-Nat.le_zero_eq] at h))
 refine zA [(2,5),(16,50)] (fun (i:Nat) env H=>env 3=.pure (.int .i64 i)/\i<=bs.xs.length/\Hide (zsm bs.xs i)) (fun i=>bs.xs.length - i) 0 ?_ ?_ ?_ ?_
 .decide
 .exact ⟨by simp,by omega,⟨fun _ _ h=>by omega⟩⟩
 .simp only [zz];omega
 rintro i env H ⟨g3,hi,hn⟩
 by_cases aK:i < bs.xs.length
 .have w1:IntKind.i64.wrap ((i:Int)+1)=(i+1:Nat):=by rw [wrap64 (by omega) (by omega)];omega
  have jM:(i:Int) < bs.xs.length:=by omega
  have c1:=WG.h bs.xs[i];simp only [Box.cells,Span.cells] at c1
  by_cases hw:OC bs.xs[i]=true
  .have hRf:R=false:=by
    rw [QK.h,List.all_eq_false];exact ⟨_,List.getElem_mem aK,by simp [hw]⟩
   subst hRf;unfold OC at hw;rw [Bool.and_eq_true,Bool.or_eq_true,decide_eq_true_eq,decide_eq_true_eq] at hw;obtain ⟨hv,hw⟩:=hw;have wG:=aH.1 hv;have x1:IntKind.i64.wrap (bs.xs[i].x.hi - bs.xs[i].x.lo)=bs.xs[i].x.hi - bs.xs[i].x.lo:=wrap64 (by omega) (by omega);have x2:IntKind.i64.wrap (bs.xs[i].y.hi - bs.xs[i].y.lo)=bs.xs[i].y.hi - bs.xs[i].y.lo:=wrap64 (by omega) (by omega);rw [hv] at c1;clear QK hn wG hv WG
   by_cases hx:60 < bs.xs[i].x.hi - bs.xs[i].x.lo
   .clear hw;simp [*,zb,Box.cells,Span.cells]
   .have hy:60 < bs.xs[i].y.hi - bs.xs[i].y.lo:=by omega
    clear hw;simp [*,zb,Box.cells,Span.cells]
  .have qV:OC bs.xs[i]=false:=by simpa using hw
   have jc:Hide (zsm bs.xs (i+1)):=⟨fun j h hj=>by
    by_cases e:j=i
    .subst e;exact qV
    .exact hn.h j h (by omega)⟩
   clear hw hn;unfold OC at qV
   cases hv:mJ bs.xs[i] with
   | false =>
    rw [hv] at c1;clear qV QK WG hv;(repeat' first|simp [*,zb,Box.cells,Span.cells]|(apply za<;>intro _ h<;>try simp [-Nat.le_zero_eq] at h));exact ⟨i+1,by omega,by omega,by omega,jc⟩
   | true =>
    rw [hv] at qV c1;rw [Bool.true_and,Bool.or_eq_false_iff,decide_eq_false_iff_not,decide_eq_false_iff_not] at qV;obtain ⟨hx,hy⟩:=qV;have wG:=aH.1 hv;have x1:IntKind.i64.wrap (bs.xs[i].x.hi - bs.xs[i].x.lo)=bs.xs[i].x.hi - bs.xs[i].x.lo:=wrap64 (by omega) (by omega);have x2:IntKind.i64.wrap (bs.xs[i].y.hi - bs.xs[i].y.lo)=bs.xs[i].y.hi - bs.xs[i].y.lo:=wrap64 (by omega) (by omega);clear QK wG hv WG;(repeat' first|simp [*,zb,Box.cells,Span.cells]|(apply za<;>intro _ h<;>try simp [-Nat.le_zero_eq] at h));exact ⟨i+1,by omega,by omega,by omega,jc⟩
 .have qy:i=bs.xs.length:=by omega
  subst qy;have hRt:R=true:=by
   rw [QK.h,List.all_eq_true];intro b hb;obtain ⟨j,hj,rfl⟩:=List.mem_iff_getElem.1 hb;rw [hn.h j hj hj];rfl
  subst hRt;clear hn QK WG;simp [*,zb]
theorem zsP {p:Problem} (h:pX p=true):p.boxes.xs.length<=5/\p.facts.xs.length<=16:=by
 unfold pX at h;simp only [Bool.and_eq_true,decide_eq_true_eq] at h;exact h.1
end Go.Proofs.YtmmhnfghklppiaaGreat.Vm
