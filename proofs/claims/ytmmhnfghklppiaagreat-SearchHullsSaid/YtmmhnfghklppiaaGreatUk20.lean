/- The parts divide the points; how great they are: plain Lean. -/
import Derived.Test.YtmmhnfghklppiaaGreatUk15
import Derived.Test.YtmmhnfghklppiaaGreatUk18
namespace Go.Proofs.YtmmhnfghklppiaaGreat.Vm
open Go
set_option linter.unusedSimpArgs false
set_option linter.unusedVariables false
theorem bY {g:Nat->Nat} {n i k:Nat}:k∈nZ g n i↔k < n/\g k=i:=by simp [nZ]
theorem jh {g:Nat->Nat} {n:Nat} {p:List Nat}:p∈zK g n↔∃ i,i < n/\g i=i/\p=nZ g n i:=by
 unfold zK;simp only [List.mem_map,List.mem_filter,List.mem_range,beq_iff_eq]
 constructor
 .rintro ⟨i,⟨h1,h2⟩,rfl⟩;exact ⟨i,h1,h2,rfl⟩
 .rintro ⟨i,h1,h2,rfl⟩;exact ⟨i,⟨h1,h2⟩,rfl⟩
theorem nI {fs:List Fact} {e:Nat×Nat}:e∈mM fs↔∃ f∈fs,e∈AB f:=by simp [mM]
theorem zoM {fs:List Fact} {f:Fact} (h:f∈fs):(f.a.toNat,f.b.toNat)∈mM fs:=nI.2 ⟨f,h,by simp [AB]⟩
theorem zoR {fs:List Fact} {f:Fact} (h:f∈fs) (hk:f.kind=2):(f.a.toNat,f.c.toNat)∈mM fs:=nI.2 ⟨f,h,by simp [AB,hk]⟩
theorem Ho {fs:List Fact} {n:Nat} {g:Nat->Nat} (hg:bH (mM fs) n g) (hn:∀ f∈fs,Named f n):iI fs n (zK g n):=by
 refine ⟨?_,fun i=>?_,fun f hf p hp ha=>?_,hn⟩
 .rw [List.Nodup,List.pairwise_flatten]
  refine ⟨fun p hp=>?_,?_⟩
  .obtain ⟨i,_,_,rfl⟩:=jh.1 hp;exact List.Pairwise.filter _ List.nodup_range
  .unfold zK;rw [List.pairwise_map]
   refine List.Pairwise.imp (R:=fun a b=>a≠b) (fun DC x hx y hy e=>?_) (List.Pairwise.filter _ List.nodup_range)
   subst e;have h1:=(bY.1 hx).2;have h2:=(bY.1 hy).2;exact DC (h1.symm.trans h2)
 .constructor
  .intro hi;have h1:=hg.le i hi;exact List.mem_flatten.2 ⟨nZ g n (g i),jh.2 ⟨g i,by omega,hg.idem hi,rfl⟩,bY.2 ⟨hi,rfl⟩⟩
  .intro h;obtain ⟨p,hp,hi⟩:=List.mem_flatten.1 h;obtain ⟨r,_,_,rfl⟩:=jh.1 hp;exact (bY.1 hi).1
 .obtain ⟨r,_,_,rfl⟩:=jh.1 hp;have h1:=(bY.1 ha).2;have Fz:=hn f hf
  refine ⟨ha,bY.2 ⟨by have:=Fz.b;omega,?_⟩,fun hk=>bY.2 ⟨by have:=Fz.c;omega,?_⟩⟩
  .rw [<- h1];exact (hg.keep _ (zoM hf)).symm
  .rw [<- h1];exact (hg.keep _ (zoR hf hk)).symm
def SN (f:Fact) (i:Nat):Prop:=f.a.toNat=i\/f.b.toNat=i\/(f.kind=2/\f.c.toNat=i)
theorem znB {fs:List Fact} {i:Nat} (h:∀ f∈fs,¬ SN f i) {a b:Nat} (hc:lT (mM fs) a b):a=i↔b=i:=by
 induction hc with
 | refl=>exact Iff.rfl
 | edge he =>
  obtain ⟨f,hf,he⟩:=nI.1 he;have Fz:=h f hf;unfold SN at Fz;unfold AB at he
  split at he
  .rename_i hk;simp only [List.mem_cons,List.not_mem_nil,or_false,Prod.mk.injEq] at he;rcases he with ⟨rfl,rfl⟩|⟨rfl,rfl⟩<;>omega
  .simp only [List.mem_cons,List.not_mem_nil,or_false,Prod.mk.injEq] at he;obtain ⟨rfl,rfl⟩:=he;omega
 | symm _ ih=>exact ih.symm
 | trans _ _ h1 h2=>exact h1.trans h2
theorem ziF {fs:List Fact} {n:Nat} {g:Nat->Nat} (hg:bH (mM fs) n g) (hn:∀ f∈fs,Named f n) (hd:∀ f∈fs,f.a≠f.b/\(f.kind=2->f.c≠f.a)) {i:Nat} (hi:i < n) (hr:g i=i) :
  ((nZ g n i).length=1↔∀ f∈fs,¬ SN f i)/\0 < (nZ g n i).length/\(nZ g n i)[0]?=some i:=by
 have pQ:i∈nZ g n i:=bY.2 ⟨hi,hr⟩;have tZ:(nZ g n i).Nodup:=List.Pairwise.filter _ List.nodup_range;have IP:∀ k∈nZ g n i,i<=k:=fun k hk=>by
  obtain ⟨h1,h2⟩:=bY.1 hk;have:=hg.le k h1;omega
 have FB:(nZ g n i).Pairwise (· < ·):=List.Pairwise.filter _ List.pairwise_lt_range
 refine ⟨⟨fun h1 f hf wC=>?_,fun h=>?_⟩,List.length_pos_of_mem pQ,?_⟩
 .have Fz:=hn f hf;have Qa:=hd f hf;have e1:=hg.keep _ (zoM hf);simp only at e1;have two:∀ k,k < n->g k=i->k=i:=fun k hk Hr=>by
   have hkm:k∈nZ g n i:=bY.2 ⟨hk,Hr⟩
   match hl:nZ g n i,h1 with
   | [x],_ =>
    rw [hl] at pQ hkm;simp only [List.mem_singleton] at pQ hkm;rw [hkm,pQ]
  have ha:f.a.toNat < n:=by have:=Fz.a;omega
  have hb:f.b.toNat < n:=by have:=Fz.b;omega
  have hc:f.c.toNat < n:=by have:=Fz.c;omega
  rcases wC with h|h|⟨hk,h⟩
  .have:=two f.b.toNat hb (by rw [<- e1,h,hr]);have:=Fz.a;have:=Fz.b
   omega
  .have:=two f.a.toNat ha (by rw [e1,h,hr]);have:=Fz.a;have:=Fz.b
   omega
  .have e2:=hg.keep _ (zoR hf hk);simp only at e2;have:=two f.a.toNat ha (by rw [e2,h,hr]);have:=Fz.a;have:=Fz.c
   have:=Qa.2 hk;omega
 .have fe:∀ k∈nZ g n i,k=i:=fun k hk=>by
   obtain ⟨h1,h2⟩:=bY.1 hk;have:=(znB h (hg.conn k h1)).2 (by rw [h2]);exact this
  match hl:nZ g n i with
  | []=>rw [hl] at pQ;simp at pQ
  | [x]=>rfl
  | x::y::rest =>
   rw [hl] at fe FB;have e1:=fe x (by simp);have e2:=fe y (by simp);have:=(List.pairwise_cons.1 FB).1 y (by simp);omega
 .match hl:nZ g n i with
  | []=>rw [hl] at pQ;simp at pQ
  | x::rest =>
   rw [hl] at pQ IP FB;rcases List.mem_cons.1 pQ with h|h
   .rw [h];rfl
   .have h1:=(List.pairwise_cons.1 FB).1 i h;have h2:=IP x (by simp);omega
def oq (b:Box):Int:=(b.x.hi - b.x.lo+1)*(b.y.hi - b.y.lo+1)
def lV (l:List Box) (n:Int):List Nat->Int
 | []=>n
 | i::rest=>lV l (min (n*oq l[i]!) 65537) rest
theorem zq9 {n a M:Int} (hn:1<=n) (ha:1<=a) (hM:1<=M):min (n*min M a) M=min (n*a) M:=by
 rcases Int.le_total a M with h|h
 .rw [show min M a=a by omega]
 .rw [show min M a=M by omega];have h1:M<=n*M:=by have:=Int.mul_le_mul_of_nonneg_right hn (show (0:Int)<=M by omega);omega
  have h2:n*M<=n*a:=Int.mul_le_mul_of_nonneg_left h (by omega);omega
theorem Qb {b:Box} (h:ja b):1<=oq b:=by
 have h1:1<=b.x.hi - b.x.lo+1:=by have:=h.1;omega
 have h2:1<=b.y.hi - b.y.lo+1:=by have:=h.2;omega
 have:=Int.mul_le_mul h1 h2 (by omega) (by omega);unfold oq;omega
end Go.Proofs.YtmmhnfghklppiaaGreat.Vm
