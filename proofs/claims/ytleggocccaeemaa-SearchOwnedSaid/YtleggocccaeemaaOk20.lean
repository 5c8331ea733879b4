/- The parts divide the points; how great they are: plain Lean. -/
import Derived.Test.YtleggocccaeemaaOk15
import Derived.Test.YtleggocccaeemaaOk18
namespace Go.Proofs.Ytleggocccaeemaa.Vm
open Go
set_option linter.unusedSimpArgs false
set_option linter.unusedVariables false
theorem mem_partL {g:Nat->Nat} {n i k:Nat}:k∈za1 g n i↔k < n/\g k=i:=by simp [za1]
theorem mem_parts {g:Nat->Nat} {n:Nat} {p:List Nat}:p∈zak g n↔∃ i,i < n/\g i=i/\p=za1 g n i:=by
 unfold zak;simp only [List.mem_map,List.mem_filter,List.mem_range,beq_iff_eq]
 constructor
 ·rintro ⟨i,⟨h1,h2⟩,rfl⟩;exact ⟨i,h1,h2,rfl⟩
 ·rintro ⟨i,h1,h2,rfl⟩;exact ⟨i,⟨h1,h2⟩,rfl⟩
theorem mem_edgesL {fs:List Fact} {e:Nat×Nat}:e∈zaV fs↔∃ f∈fs,e∈zdy f:=by simp [zaV]
theorem zlI {fs:List Fact} {f:Fact} (h:f∈fs):(f.a.toNat,f.b.toNat)∈zaV fs:=mem_edgesL.2 ⟨f,h,by simp [zdy]⟩
theorem zlZ {fs:List Fact} {f:Fact} (h:f∈fs) (hk:f.kind=2):(f.a.toNat,f.c.toNat)∈zaV fs:=mem_edgesL.2 ⟨f,h,by simp [zdy,hk]⟩
theorem zhO {fs:List Fact} {n:Nat} {g:Nat->Nat} (hg:IsCls (zaV fs) n g) (hn:∀ f∈fs,Named f n):IsDiv fs n (zak g n):=by
 refine ⟨?_,fun i=>?_,fun f hf p hp ha=>?_,hn⟩
 ·rw [List.Nodup,List.pairwise_flatten]
  refine ⟨fun p hp=>?_,?_⟩
  ·obtain ⟨i,_,_,rfl⟩:=mem_parts.1 hp;exact List.Pairwise.filter _ List.nodup_range
  ·unfold zak;rw [List.pairwise_map]
   refine List.Pairwise.imp (R:=fun a b=>a≠b) (fun hab x hx y hy e=>?_) (List.Pairwise.filter _ List.nodup_range)
   subst e;have h1:=(mem_partL.1 hx).2;have h2:=(mem_partL.1 hy).2;exact hab (h1.symm.trans h2)
 ·constructor
  ·intro hi;have h1:=hg.le i hi;exact List.mem_flatten.2 ⟨za1 g n (g i),mem_parts.2 ⟨g i,by omega,hg.idem hi,rfl⟩,mem_partL.2 ⟨hi,rfl⟩⟩
  ·intro h;obtain ⟨p,hp,hi⟩:=List.mem_flatten.1 h;obtain ⟨r,_,_,rfl⟩:=mem_parts.1 hp;exact (mem_partL.1 hi).1
 ·obtain ⟨r,_,_,rfl⟩:=mem_parts.1 hp;have h1:=(mem_partL.1 ha).2;have hnf:=hn f hf
  refine ⟨ha,mem_partL.2 ⟨by have:=hnf.b;omega,?_⟩,fun hk=>mem_partL.2 ⟨by have:=hnf.c;omega,?_⟩⟩
  ·rw [<- h1];exact (hg.keep _ (zlI hf)).symm
  ·rw [<- h1];exact (hg.keep _ (zlZ hf hk)).symm
def zkP (f:Fact) (i:Nat):Prop:=f.a.toNat=i\/f.b.toNat=i\/(f.kind=2/\f.c.toNat=i)
theorem zki {fs:List Fact} {i:Nat} (h:∀ f∈fs,¬ zkP f i) {a b:Nat} (hc:Conn (zaV fs) a b):a=i↔b=i:=by
 induction hc with
 | refl=>exact Iff.rfl
 | edge he =>
  obtain ⟨f,hf,he⟩:=mem_edgesL.1 he;have hnf:=h f hf;unfold zkP at hnf;unfold zdy at he
  split at he
  ·rename_i hk;simp only [List.mem_cons,List.not_mem_nil,or_false,Prod.mk.injEq] at he;rcases he with ⟨rfl,rfl⟩|⟨rfl,rfl⟩<;>omega
  ·simp only [List.mem_cons,List.not_mem_nil,or_false,Prod.mk.injEq] at he;obtain ⟨rfl,rfl⟩:=he;omega
 | symm _ ih=>exact ih.symm
 | trans _ _ h1 h2=>exact h1.trans h2
theorem zoh {fs:List Fact} {n:Nat} {g:Nat->Nat} (hg:IsCls (zaV fs) n g) (hn:∀ f∈fs,Named f n) (hd:∀ f∈fs,f.a≠f.b/\(f.kind=2->f.c≠f.a)) {i:Nat} (hi:i < n) (hr:g i=i) :
  ((za1 g n i).length=1↔∀ f∈fs,¬ zkP f i)/\0 < (za1 g n i).length/\(za1 g n i)[0]?=some i:=by
 have hmem:i∈za1 g n i:=mem_partL.2 ⟨hi,hr⟩;have hnd:(za1 g n i).Nodup:=List.Pairwise.filter _ List.nodup_range;have hlow:∀ k∈za1 g n i,i<=k:=fun k hk=>by
  obtain ⟨h1,h2⟩:=mem_partL.1 hk;have:=hg.le k h1;omega
 have hsort:(za1 g n i).Pairwise (· < ·):=List.Pairwise.filter _ List.pairwise_lt_range
 refine ⟨⟨fun h1 f hf hnm=>?_,fun h=>?_⟩,List.length_pos_of_mem hmem,?_⟩
 ·have hnf:=hn f hf;have hdf:=hd f hf;have e1:=hg.keep _ (zlI hf);simp only at e1;have two:∀ k,k < n->g k=i->k=i:=fun k hk hgk=>by
   have hkm:k∈za1 g n i:=mem_partL.2 ⟨hk,hgk⟩
   match hl:za1 g n i,h1 with
   | [x],_ =>
    rw [hl] at hmem hkm;simp only [List.mem_singleton] at hmem hkm;rw [hkm,hmem]
  have ha:f.a.toNat < n:=by have:=hnf.a;omega
  have hb:f.b.toNat < n:=by have:=hnf.b;omega
  have hc:f.c.toNat < n:=by have:=hnf.c;omega
  rcases hnm with h|h|⟨hk,h⟩
  ·have:=two f.b.toNat hb (by rw [<- e1,h,hr]);have:=hnf.a;have:=hnf.b
   omega
  ·have:=two f.a.toNat ha (by rw [e1,h,hr]);have:=hnf.a;have:=hnf.b
   omega
  ·have e2:=hg.keep _ (zlZ hf hk);simp only at e2;have:=two f.a.toNat ha (by rw [e2,h,hr]);have:=hnf.a;have:=hnf.c
   have:=hdf.2 hk;omega
 ·have hall:∀ k∈za1 g n i,k=i:=fun k hk=>by
   obtain ⟨h1,h2⟩:=mem_partL.1 hk;have:=(zki h (hg.conn k h1)).2 (by rw [h2]);exact this
  match hl:za1 g n i with
  | []=>rw [hl] at hmem;simp at hmem
  | [x]=>rfl
  | x::y::rest =>
   rw [hl] at hall hsort;have e1:=hall x (by simp);have e2:=hall y (by simp);have:=(List.pairwise_cons.1 hsort).1 y (by simp);omega
 ·match hl:za1 g n i with
  | []=>rw [hl] at hmem;simp at hmem
  | x::rest =>
   rw [hl] at hmem hlow hsort;rcases List.mem_cons.1 hmem with h|h
   ·rw [h];rfl
   ·have h1:=(List.pairwise_cons.1 hsort).1 i h;have h2:=hlow x (by simp);omega
def zbt (b:Box):Int:=(b.x.hi - b.x.lo+1)*(b.y.hi - b.y.lo+1)
def volG (l:List Box) (n:Int):List Nat->Int
 | []=>n
 | i::rest=>volG l (min (n*zbt l[i]!) 65537) rest
theorem zdQ {b:Box} (h:wfB b):1<=zbt b:=by
 have h1:1<=b.x.hi - b.x.lo+1:=by have:=h.1;omega
 have h2:1<=b.y.hi - b.y.lo+1:=by have:=h.2;omega
 have:=Int.mul_le_mul h1 h2 (by omega) (by omega);unfold zbt;omega
end Go.Proofs.Ytleggocccaeemaa.Vm
