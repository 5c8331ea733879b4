/- The parts divide the points; how great they are: plain Lean. -/
import Derived.Test.YtmmhnfghklppiaaGreatWk15
import Derived.Test.YtmmhnfghklppiaaGreatWk18
namespace Go.Proofs.YtmmhnfghklppiaaGreat.Vm
open Go
set_option linter.unusedSimpArgs false
set_option linter.unusedVariables false
theorem bY {g:Nat->Nat} {n i k:Nat}:k∈rD g n i↔k < n/\g k=i:=by simp [rD]
theorem jK {g:Nat->Nat} {n:Nat} {p:List Nat}:p∈pG g n↔∃ i,i < n/\g i=i/\p=rD g n i:=by
 unfold pG;simp only [List.mem_map,List.mem_filter,List.mem_range,beq_iff_eq]
 constructor
 .rintro ⟨i,⟨h1,h2⟩,rfl⟩;exact ⟨i,h1,h2,rfl⟩
 .rintro ⟨i,h1,h2,rfl⟩;exact ⟨i,⟨h1,h2⟩,rfl⟩
theorem nC {fs:List Fact} {e:Nat×Nat}:e∈pF fs↔∃ f∈fs,e∈Af f:=by simp [pF]
theorem zo4 {fs:List Fact} {f:Fact} (h:f∈fs):(f.a.toNat,f.b.toNat)∈pF fs:=nC.2 ⟨f,h,by simp [Af]⟩
theorem zoy {fs:List Fact} {f:Fact} (h:f∈fs) (hk:f.kind=2):(f.a.toNat,f.c.toNat)∈pF fs:=nC.2 ⟨f,h,by simp [Af,hk]⟩
theorem MS {fs:List Fact} {n:Nat} {g:Nat->Nat} (hg:bV (pF fs) n g) (hn:∀ f∈fs,Named f n):fO fs n (pG g n):=by
 refine ⟨?_,fun i=>?_,fun f hf p hp ha=>?_,hn⟩
 .rw [List.Nodup,List.pairwise_flatten]
  refine ⟨fun p hp=>?_,?_⟩
  .obtain ⟨i,_,_,rfl⟩:=jK.1 hp;exact List.Pairwise.filter _ List.nodup_range
  .unfold pG;rw [List.pairwise_map]
   refine List.Pairwise.imp (R:=fun a b=>a≠b) (fun Ci x hx y hy e=>?_) (List.Pairwise.filter _ List.nodup_range)
   subst e;have h1:=(bY.1 hx).2;have h2:=(bY.1 hy).2;exact Ci (h1.symm.trans h2)
 .constructor
  .intro hi;have h1:=hg.le i hi;exact List.mem_flatten.2 ⟨rD g n (g i),jK.2 ⟨g i,by omega,hg.idem hi,rfl⟩,bY.2 ⟨hi,rfl⟩⟩
  .intro h;obtain ⟨p,hp,hi⟩:=List.mem_flatten.1 h;obtain ⟨r,_,_,rfl⟩:=jK.1 hp;exact (bY.1 hi).1
 .obtain ⟨r,_,_,rfl⟩:=jK.1 hp;have h1:=(bY.1 ha).2;have Ew:=hn f hf
  refine ⟨ha,bY.2 ⟨by have:=Ew.b;omega,?_⟩,fun hk=>bY.2 ⟨by have:=Ew.c;omega,?_⟩⟩
  .rw [<- h1];exact (hg.keep _ (zo4 hf)).symm
  .rw [<- h1];exact (hg.keep _ (zoy hf hk)).symm
def znB (f:Fact) (i:Nat):Prop:=f.a.toNat=i\/f.b.toNat=i\/(f.kind=2/\f.c.toNat=i)
theorem znc {fs:List Fact} {i:Nat} (h:∀ f∈fs,¬ znB f i) {a b:Nat} (hc:lX (pF fs) a b):a=i↔b=i:=by
 induction hc with
 | refl=>exact Iff.rfl
 | edge he =>
  obtain ⟨f,hf,he⟩:=nC.1 he;have Ew:=h f hf;unfold znB at Ew;unfold Af at he
  split at he
  .rename_i hk;simp only [List.mem_cons,List.not_mem_nil,or_false,Prod.mk.injEq] at he;rcases he with ⟨rfl,rfl⟩|⟨rfl,rfl⟩<;>omega
  .simp only [List.mem_cons,List.not_mem_nil,or_false,Prod.mk.injEq] at he;obtain ⟨rfl,rfl⟩:=he;omega
 | symm _ ih=>exact ih.symm
 | trans _ _ h1 h2=>exact h1.trans h2
theorem zlr {fs:List Fact} {n:Nat} {g:Nat->Nat} (hg:bV (pF fs) n g) (hn:∀ f∈fs,Named f n) (hd:∀ f∈fs,f.a≠f.b/\(f.kind=2->f.c≠f.a)) {i:Nat} (hi:i < n) (hr:g i=i) :
  ((rD g n i).length=1↔∀ f∈fs,¬ znB f i)/\0 < (rD g n i).length/\(rD g n i)[0]?=some i:=by
 have o9:i∈rD g n i:=bY.2 ⟨hi,hr⟩;have Bz:(rD g n i).Nodup:=List.Pairwise.filter _ List.nodup_range;have Hm:∀ k∈rD g n i,i<=k:=fun k hk=>by
  obtain ⟨h1,h2⟩:=bY.1 hk;have:=hg.le k h1;omega
 have Ey:(rD g n i).Pairwise (· < ·):=List.Pairwise.filter _ List.pairwise_lt_range
 refine ⟨⟨fun h1 f hf JN=>?_,fun h=>?_⟩,List.length_pos_of_mem o9,?_⟩
 .have Ew:=hn f hf;have OH:=hd f hf;have e1:=hg.keep _ (zo4 hf);simp only at e1;have two:∀ k,k < n->g k=i->k=i:=fun k hk Fg=>by
   have hkm:k∈rD g n i:=bY.2 ⟨hk,Fg⟩
   match hl:rD g n i,h1 with
   | [x],_ =>
    rw [hl] at o9 hkm;simp only [List.mem_singleton] at o9 hkm;rw [hkm,o9]
  have ha:f.a.toNat < n:=by have:=Ew.a;omega
  have hb:f.b.toNat < n:=by have:=Ew.b;omega
  have hc:f.c.toNat < n:=by have:=Ew.c;omega
  rcases JN with h|h|⟨hk,h⟩
  .have:=two f.b.toNat hb (by rw [<- e1,h,hr]);have:=Ew.a;have:=Ew.b
   omega
  .have:=two f.a.toNat ha (by rw [e1,h,hr]);have:=Ew.a;have:=Ew.b
   omega
  .have e2:=hg.keep _ (zoy hf hk);simp only at e2;have:=two f.a.toNat ha (by rw [e2,h,hr]);have:=Ew.a;have:=Ew.c
   have:=OH.2 hk;omega
 .have fq:∀ k∈rD g n i,k=i:=fun k hk=>by
   obtain ⟨h1,h2⟩:=bY.1 hk;have:=(znc h (hg.conn k h1)).2 (by rw [h2]);exact this
  match hl:rD g n i with
  | []=>rw [hl] at o9;simp at o9
  | [x]=>rfl
  | x::y::rest =>
   rw [hl] at fq Ey;have e1:=fq x (by simp);have e2:=fq y (by simp);have:=(List.pairwise_cons.1 Ey).1 y (by simp);omega
 .match hl:rD g n i with
  | []=>rw [hl] at o9;simp at o9
  | x::rest =>
   rw [hl] at o9 Hm Ey;rcases List.mem_cons.1 o9 with h|h
   .rw [h];rfl
   .have h1:=(List.pairwise_cons.1 Ey).1 i h;have h2:=Hm x (by simp);omega
def rF (b:Box):Int:=(b.x.hi - b.x.lo+1)*(b.y.hi - b.y.lo+1)
def lZ (l:List Box) (n:Int):List Nat->Int
 | []=>n
 | i::rest=>lZ l (min (n*rF l[i]!) 65537) rest
theorem TW {b:Box} (h:jl b):1<=rF b:=by
 have h1:1<=b.x.hi - b.x.lo+1:=by have:=h.1;omega
 have h2:1<=b.y.hi - b.y.lo+1:=by have:=h.2;omega
 have:=Int.mul_le_mul h1 h2 (by omega) (by omega);unfold rF;omega
end Go.Proofs.YtmmhnfghklppiaaGreat.Vm
