/- Parts: what the program's parts computes. Parts: what the program's parts computes, walked. Volumes of parts: the program's, walked. What look gathers of the choices of a part: how many, the first one, the best ones. Plain Lean. -/
import Derived.Test.YtmghcpdpilgplaaGreatQk16
import Derived.Test.YtmghcpdpilgplaaGreatQk17
import Derived.Test.YtmghcpdpilgplaaGreatQk18
import Derived.Test.YtmghcpdpilgplaaGreatQk19
import Derived.Test.YtmghcpdpilgplaaGreatQk8
namespace Go.Proofs.YtmghcpdpilgplaaGreat.Vm
open Go
set_option linter.unusedSimpArgs false
set_option linter.unusedVariables false
set_option maxHeartbeats 4000000
set_option maxRecDepth 4000
theorem wpE_runA {n:Nat} {H:Heap} {f:Nat} {caps args:List AV} {k:AV→Heap→Prop} {u} (hs:G.shared f=true) (h:∃ v H',Vm.call G (n+1) (.fn f) (args++caps) H=some (v,H')∧k v H') :
  wpE 0 (doCall (calleeOf G (n+1)) H (.func f caps) args) H k u:=by
 obtain ⟨v,H',h1,h2⟩:=h
 refine ⟨.upd v H',?_,by simp,h2⟩
 have hs':(calleeOf G (n+1)).shared f=true:=hs;have h1':(calleeOf G (n+1)).run f (args++caps) H=some (v,H'):=h1;simp only [doCall,hs',if_true,h1']
def partPV (l:List Nat):PV:=.slice false 1 (l.map fun (k:Nat)=>[PV.int .i64 (k:Int)])
def partsPV (ps:List (List Nat)):PV:=if ps.isEmpty=true then .nils else .slice false 1 (ps.map fun l=>[partPV l])
theorem edges_next {fs:List Fact} {k:Nat} (h:k < fs.length):edgesL (fs.take (k+1))=edgesL (fs.take k)++edgesF fs[k]:=by
 unfold edgesL;rw [List.take_add_one,List.flatMap_append,List.getElem?_eq_getElem h];simp
theorem edges_all (fs:List Fact):edgesL (fs.take fs.length)=edgesL fs:=by rw [List.take_length]
def rowsV (ids:List (Nat×List Nat)):List AV:=ids.map fun x=>.row x.1 1 0 x.2.length
def intsN (l:List Nat):List Int:=l.map fun (k:Nat)=>(k:Int)
theorem intsN_length (l:List Nat):(intsN l).length=l.length:=by simp [intsN]
structure PaJ (B:Nat) (H:Heap) (v:AV) (ps:List (List Nat)):Prop where
 ex:∃ ids:List (Nat×List Nat),ids.map Prod.snd=ps∧RowA H v (rowsV ids)∧∀ x∈ids,B≤x.1∧¬ Names v x.1∧H.get x.1=.cells true (rowOf intF (intsN x.2))
 low:∀ id,Names v id→B≤id
theorem PaJ.nil (B:Nat) (H:Heap):PaJ B H (.pure .nils) []:=⟨⟨[],rfl,RowA.nil,fun x hx=>by simp at hx⟩,fun id ⟨_,_,_,h⟩=>by simp at h⟩
theorem PaJ.lt {B:Nat} {H:Heap} {v:AV} {ps:List (List Nat)} (h:PaJ B H v ps) {id:Nat} (hn:Names v id):id < H.nx:=by
 obtain ⟨ids,_,hr,_⟩:=h.ex;exact hr.names_lt hn
theorem PaJ.keep {B:Nat} {H H':Heap} {v:AV} {ps:List (List Nat)} (h:PaJ B H v ps) (hk:∀ j,B≤j→j < H.nx→H'.get j=H.get j):PaJ B H' v ps:=by
 obtain ⟨ids,h1,h2,h3⟩:=h.ex
 refine ⟨⟨ids,h1,h2.keep fun id hn=>hk id (h.low id hn) (h2.names_lt hn),fun x hx=>?_⟩,h.low⟩
 obtain ⟨a,b,c⟩:=h3 x hx;exact ⟨a,b,by rw [hk x.1 a (nx_of_get c)];exact c⟩
theorem rows_frz {H:Heap}:∀ ids:List (Nat×List Nat),(∀ x∈ids,H.get x.1=.cells true (rowOf intF (intsN x.2)))→FrzL H false 11 (rowsV ids) (ids.map fun x=>partPV x.2)
 | [],_=>FrzL.nil
 | x::ids,h=>by
  refine FrzL.cons ?_ (rows_frz ids fun y hy=>h y (List.mem_cons_of_mem _ hy))
  have h1:=row_res (n:=9) (f:=intF) (sz:=1) (m:=x.2.length) (fun _=>rfl) (h x List.mem_cons_self) (intsN_length _);have e:(Sl.mk false (intsN x.2)).pv intF 1=partPV x.2:=by
   simp only [Sl.pv,partPV,intsN,List.map_map];rfl
  rw [e] at h1;exact h1
theorem PaJ.res {B:Nat} {H:Heap} {v:AV} {ps:List (List Nat)} (h:PaJ B H v ps):FrzK H false 12 v (partsPV ps):=by
 obtain ⟨ids,h1,h2,h3⟩:=h.ex;have h4:=h2.frz (rows_frz ids fun x hx=>(h3 x hx).2.2);have e:(if (rowsV ids).isEmpty=true then PV.nils else .slice false 1 ((ids.map fun x=>partPV x.2).map fun p=>[p]))=partsPV ps:=by
  subst h1
  cases ids with
  | nil=>rfl
  | cons x ids=>simp [rowsV,partsPV]
 rw [e] at h4;exact h4
theorem volG_snoc (b:List Box) (k:Nat):∀ (l:List Nat) (x:Int),volG b x (l++[k])=min (volG b x l*areaB b[k]!) 65537
 | [],x=>rfl
 | i::l,x=>by simp only [List.cons_append,volG];exact volG_snoc b k l _
theorem volG_rng {b:List Box} (hb:∀ k,k < b.length→1≤areaB b[k]!):∀ (l:List Nat) (x:Int),(∀ k∈l,k < b.length)→1≤x→x≤65537→1≤volG b x l∧volG b x l≤65537
 | [],x,_,h1,h2=>⟨h1,h2⟩
 | i::l,x,hl,h1,h2=>by
  refine volG_rng hb l _ (fun k hk=>hl k (List.mem_cons_of_mem _ hk)) ?_ (by omega)
  have h3:=hb i (hl i List.mem_cons_self);have h4:=Int.mul_le_mul h1 h3 (by omega) (by omega);omega
def volP (b:List Box) (l:List Nat):Int:=if 1 < l.length then volG b 1 l else 1
def volL (b:List Box) (ps:List (List Nat)):Int:=ps.foldl (fun x l=>max x (volP b l)) 0
theorem wraps_vol {y u v:Int} (h1:1≤y) (h2:y≤65537) (h3:1≤u) (h4:u≤2097153) (h5:1≤v) (h6:v≤2097153):IntKind.i64.wrap (y*u)=y*u∧IntKind.i64.wrap (y*u*v)=y*u*v:=by
 have a1:=Int.mul_le_mul h2 h4 (by omega) (by omega);have a2:=Int.mul_le_mul h1 h3 (by omega) (by omega);have a3:=Int.mul_le_mul a1 h6 (by omega) (by omega);have a4:=Int.mul_le_mul a2 h5 (by omega) (by omega);exact ⟨wrap64 (by omega) (by omega),wrap64 (by omega) (by omega)⟩
theorem wrap_uv {u v:Int} (h1:1≤u) (h2:u≤2097153) (h3:1≤v) (h4:v≤2097153):IntKind.i64.wrap (u*v)=u*v:=by
 have a1:=Int.mul_le_mul h2 h4 (by omega) (by omega);have a2:=Int.mul_le_mul h1 h3 (by omega) (by omega);exact wrap64 (by omega) (by omega)
structure Acc where
 n:Nat
 first:Option (List Pt)
 best:List (Option (List Pt))
def keyC (j:Nat) (c:List Pt):Int:=keyS c[j / 4]! (j % 4)
def accOf (M:Nat):Acc:=⟨0,none,List.replicate M none⟩
theorem placesB_at {b:Box} {i k:Nat} (hi:i < (b.x.hi - b.x.lo+1).toNat) (hk:k < (b.y.hi - b.y.lo+1).toNat) :
  ∃ h:i*(b.y.hi - b.y.lo+1).toNat+k < (placesB b).length,(placesB b)[i*(b.y.hi - b.y.lo+1).toNat+k]=⟨b.x.lo+i,b.y.lo+k⟩:=by
 have key:∀ (m:Nat) (xs ys:List Int),ys.length=m→∀ i k (hi:i < xs.length) (hk:k < ys.length),∃ h:i*m+k < (xs.flatMap fun x=>ys.map fun y=>(⟨x,y⟩:Pt)).length,(xs.flatMap fun x=>ys.map fun y=>(⟨x,y⟩:Pt))[i*m+k]=⟨xs[i],ys[k]⟩:=by
  intro m xs ys hy
  induction xs with
  | nil=>intro i k hi;simp at hi
  | cons x xs ih =>
   intro i k hi hk;simp only [List.flatMap_cons]
   cases i with
   | zero =>
    refine ⟨by simp;omega,?_⟩
    rw [List.getElem_append_left (by simpa using hk)];simp
   | succ i =>
    obtain ⟨h1,h2⟩:=ih i k (by simpa using hi) hk;have e:(i+1)*m+k=m+(i*m+k):=by rw [Nat.add_mul];omega
    refine ⟨by rw [List.length_append,List.length_map,hy,e];omega,?_⟩
    rw [List.getElem_append_right (by rw [List.length_map,hy,e];omega)];simp only [List.length_map,hy,e,Nat.add_sub_cancel_left,h2,List.getElem_cons_succ]
 have h:=key (b.y.hi - b.y.lo+1).toNat (numsS b.x) (numsS b.y) (nums_length _) i k (by rw [nums_length];exact hi) (by rw [nums_length];exact hk);obtain ⟨h1,h2⟩:=h
 refine ⟨h1,?_⟩
 unfold placesB;rw [h2];simp [numsS]
def enumTo (ok:Nat→List Box→Bool) (l:List Box) (i:Nat) (rest:List Nat) (k:Nat) (here:List Box) (t:Nat):List (List Pt) :=
 ((placesB l[i]!).take t).flatMap fun x=>if ok k (here.set i (atB x))=true then (enumC ok l rest (k+1) (here.set i (atB x))).map (x :: ·) else []
theorem enumTo_zero (ok:Nat→List Box→Bool) (l:List Box) (i:Nat) (rest:List Nat) (k:Nat) (here:List Box):enumTo ok l i rest k here 0=[]:=by simp [enumTo]
theorem enumTo_all (ok:Nat→List Box→Bool) (l:List Box) (i:Nat) (rest:List Nat) (k:Nat) (here:List Box) {t:Nat} (h:(placesB l[i]!).length≤t):enumTo ok l i rest k here t=enumC ok l (i::rest) k here:=by
 rw [enumTo,List.take_of_length_le h,enumC]
theorem enumTo_next (ok:Nat→List Box→Bool) (l:List Box) (i:Nat) (rest:List Nat) (k:Nat) (here:List Box) {t:Nat} {x:Pt} (h:(placesB l[i]!)[t]?=some x) :
  enumTo ok l i rest k here (t+1)=enumTo ok l i rest k here t++(if ok k (here.set i (atB x))=true then (enumC ok l rest (k+1) (here.set i (atB x))).map (x :: ·) else []):=by
 unfold enumTo;rw [List.take_add_one,List.flatMap_append,h];simp
theorem enumTo_le (ok:Nat→List Box→Bool) (l:List Box) (i:Nat) (rest:List Nat) (k:Nat) (here:List Box) (t:Nat):(enumTo ok l i rest k here t).length≤(enumC ok l (i::rest) k here).length:=by
 have e:=List.take_append_drop t (placesB l[i]!);rw [enumC]
 conv=>rhs;rw [← e,List.flatMap_append,List.length_append]
 unfold enumTo;omega
theorem allC_length (l:List Box) (i:Nat) (rest:List Nat):(allC l (i::rest)).length=(placesB l[i]!).length*(allC l rest).length:=by
 rw [allC,flat_length _ (allC l rest).length _ (fun a _=>by simp)]
theorem places_area {b:Box} (h:wfB b):((placesB b).length:Int)=areaB b:=by
 rw [places_length];unfold areaB;have h1:=h.1;have h2:=h.2;rw [Int.natCast_mul,Int.toNat_of_nonneg (by omega),Int.toNat_of_nonneg (by omega)]
theorem volG_top {l:List Box} (hb:∀ k,k < l.length→1≤areaB l[k]!):∀ (part:List Nat),(∀ k∈part,k < l.length)→volG l 65537 part=65537
 | [],_=>rfl
 | i::rest,hl=>by
  have h1:=hb i (hl i List.mem_cons_self);rw [volG,show min (65537*areaB l[i]!) 65537=65537 by omega];exact volG_top hb rest fun k hk=>hl k (List.mem_cons_of_mem _ hk)
theorem volG_len {l:List Box} (hw:∀ k,k < l.length→wfB l[k]!):∀ (part:List Nat) (n:Int),(∀ k∈part,k < l.length)→1≤n→volG l n part≤65536→n*((allC l part).length:Int)=volG l n part
 | [],n,_,_,_=>by simp [allC,volG]
 | i::rest,n,hl,hn,hv=>by
  have hi:=hw i (hl i List.mem_cons_self);have hb:∀ k,k < l.length→1≤areaB l[k]! := fun k hk=>area_pos (hw k hk);rw [volG] at hv ⊢;have hlr:∀ k∈rest,k < l.length:=fun k hk=>hl k (List.mem_cons_of_mem _ hk)
  by_cases hc:n*areaB l[i]! ≤ 65536
  ·rw [show min (n*areaB l[i]!) 65537=n*areaB l[i]! by omega] at hv ⊢;have h1:1≤n*areaB l[i]! := by
    have:=Int.mul_le_mul hn (area_pos hi) (by omega) (by omega);omega
   rw [← volG_len hw rest _ hlr h1 hv,allC_length,Int.natCast_mul,places_area hi,Int.mul_assoc]
  ·rw [show min (n*areaB l[i]!) 65537=65537 by omega,volG_top hb rest hlr] at hv;omega
theorem enum_len (ok:Nat→List Box→Bool) (l:List Box) (part:List Nat) (k:Nat) (here:List Box):(enumC ok l part k here).length≤(allC l part).length:=by
 rw [enum_filter];exact List.length_filter_le _ _
end Go.Proofs.YtmghcpdpilgplaaGreat.Vm
