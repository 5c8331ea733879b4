/- The parts divide the points; how great they are: plain Lean. -/
import Derived.Test.YtmmhnfghklppiaaGreatVk15
import Derived.Test.YtmmhnfghklppiaaGreatVk18
namespace Go.Proofs.YtmmhnfghklppiaaGreat.Vm
open Go
set_option linter.unusedSimpArgs false
set_option linter.unusedVariables false
theorem bH {g:Nat->Nat} {n i k:Nat}:k∈o7 g n i↔k < n/\g k=i:=by simp [o7]
theorem iV {g:Nat->Nat} {n:Nat} {p:List Nat}:p∈z8 g n↔∃ i,i < n/\g i=i/\p=o7 g n i:=by
 unfold z8;simp only [List.mem_map,List.mem_filter,List.mem_range,beq_iff_eq]
 constructor
 .rintro ⟨i,⟨h1,h2⟩,rfl⟩;exact ⟨i,h1,h2,rfl⟩
 .rintro ⟨i,h1,h2,rfl⟩;exact ⟨i,⟨h1,h2⟩,rfl⟩
theorem lW {fs:List Fact} {e:Nat×Nat}:e∈nz fs↔∃ f∈fs,e∈wJ f:=by simp [nz]
theorem zn5 {fs:List Fact} {f:Fact} (h:f∈fs):(f.a.toNat,f.b.toNat)∈nz fs:=lW.2 ⟨f,h,by simp [wJ]⟩
theorem zoe {fs:List Fact} {f:Fact} (h:f∈fs) (hk:f.kind=2):(f.a.toNat,f.c.toNat)∈nz fs:=lW.2 ⟨f,h,by simp [wJ,hk]⟩
theorem LZ {fs:List Fact} {n:Nat} {g:Nat->Nat} (hg:bF (nz fs) n g) (hn:∀ f∈fs,Named f n):fP fs n (z8 g n):=by
 refine ⟨?_,fun i=>?_,fun f hf p hp ha=>?_,hn⟩
 .rw [List.Nodup,List.pairwise_flatten]
  refine ⟨fun p hp=>?_,?_⟩
  .obtain ⟨i,_,_,rfl⟩:=iV.1 hp;exact List.Pairwise.filter _ List.nodup_range
  .unfold z8;rw [List.pairwise_map]
   refine List.Pairwise.imp (R:=fun a b=>a≠b) (fun yZ x hx y hy e=>?_) (List.Pairwise.filter _ List.nodup_range)
   subst e;have h1:=(bH.1 hx).2;have h2:=(bH.1 hy).2;exact yZ (h1.symm.trans h2)
 .constructor
  .intro hi;have h1:=hg.le i hi;exact List.mem_flatten.2 ⟨o7 g n (g i),iV.2 ⟨g i,by omega,hg.idem hi,rfl⟩,bH.2 ⟨hi,rfl⟩⟩
  .intro h;obtain ⟨p,hp,hi⟩:=List.mem_flatten.1 h;obtain ⟨r,_,_,rfl⟩:=iV.1 hp;exact (bH.1 hi).1
 .obtain ⟨r,_,_,rfl⟩:=iV.1 hp;have h1:=(bH.1 ha).2;have BS:=hn f hf
  refine ⟨ha,bH.2 ⟨by have:=BS.b;omega,?_⟩,fun hk=>bH.2 ⟨by have:=BS.c;omega,?_⟩⟩
  .rw [<- h1];exact (hg.keep _ (zn5 hf)).symm
  .rw [<- h1];exact (hg.keep _ (zoe hf hk)).symm
def YG (f:Fact) (i:Nat):Prop:=f.a.toNat=i\/f.b.toNat=i\/(f.kind=2/\f.c.toNat=i)
theorem znv {fs:List Fact} {i:Nat} (h:∀ f∈fs,¬ YG f i) {a b:Nat} (hc:jK (nz fs) a b):a=i↔b=i:=by
 induction hc with
 | refl=>exact Iff.rfl
 | edge he =>
  obtain ⟨f,hf,he⟩:=lW.1 he;have BS:=h f hf;unfold YG at BS;unfold wJ at he
  split at he
  .rename_i hk;simp only [List.mem_cons,List.not_mem_nil,or_false,Prod.mk.injEq] at he;rcases he with ⟨rfl,rfl⟩|⟨rfl,rfl⟩<;>omega
  .simp only [List.mem_cons,List.not_mem_nil,or_false,Prod.mk.injEq] at he;obtain ⟨rfl,rfl⟩:=he;omega
 | symm _ ih=>exact ih.symm
 | trans _ _ h1 h2=>exact h1.trans h2
theorem zl6 {fs:List Fact} {n:Nat} {g:Nat->Nat} (hg:bF (nz fs) n g) (hn:∀ f∈fs,Named f n) (hd:∀ f∈fs,f.a≠f.b/\(f.kind=2->f.c≠f.a)) {i:Nat} (hi:i < n) (hr:g i=i) :
  ((o7 g n i).length=1↔∀ f∈fs,¬ YG f i)/\0 < (o7 g n i).length/\(o7 g n i)[0]?=some i:=by
 have oI:i∈o7 g n i:=bH.2 ⟨hi,hr⟩;have xW:(o7 g n i).Nodup:=List.Pairwise.filter _ List.nodup_range;have qp:∀ k∈o7 g n i,i<=k:=fun k hk=>by
  obtain ⟨h1,h2⟩:=bH.1 hk;have:=hg.le k h1;omega
 have BU:(o7 g n i).Pairwise (· < ·):=List.Pairwise.filter _ List.pairwise_lt_range
 refine ⟨⟨fun h1 f hf G5=>?_,fun h=>?_⟩,List.length_pos_of_mem oI,?_⟩
 .have BS:=hn f hf;have L6:=hd f hf;have e1:=hg.keep _ (zn5 hf);simp only at e1;have two:∀ k,k < n->g k=i->k=i:=fun k hk Fh=>by
   have YH:k∈o7 g n i:=bH.2 ⟨hk,Fh⟩
   match hl:o7 g n i,h1 with
   | [x],_ =>
    rw [hl] at oI YH;simp only [List.mem_singleton] at oI YH;rw [YH,oI]
  have ha:f.a.toNat < n:=by have:=BS.a;omega
  have hb:f.b.toNat < n:=by have:=BS.b;omega
  have hc:f.c.toNat < n:=by have:=BS.c;omega
  rcases G5 with h|h|⟨hk,h⟩
  .have:=two f.b.toNat hb (by rw [<- e1,h,hr]);have:=BS.a;have:=BS.b
   omega
  .have:=two f.a.toNat ha (by rw [e1,h,hr]);have:=BS.a;have:=BS.b
   omega
  .have e2:=hg.keep _ (zoe hf hk);simp only at e2;have:=two f.a.toNat ha (by rw [e2,h,hr]);have:=BS.a;have:=BS.c
   have:=L6.2 hk;omega
 .have bM:∀ k∈o7 g n i,k=i:=fun k hk=>by
   obtain ⟨h1,h2⟩:=bH.1 hk;have:=(znv h (hg.conn k h1)).2 (by rw [h2]);exact this
  match hl:o7 g n i with
  | []=>rw [hl] at oI;simp at oI
  | [x]=>rfl
  | x::y::rest =>
   rw [hl] at bM BU;have e1:=bM x (by simp);have e2:=bM y (by simp);have:=(List.pairwise_cons.1 BU).1 y (by simp);omega
 .match hl:o7 g n i with
  | []=>rw [hl] at oI;simp at oI
  | x::rest =>
   rw [hl] at oI qp BU;rcases List.mem_cons.1 oI with h|h
   .rw [h];rfl
   .have h1:=(List.pairwise_cons.1 BU).1 i h;have h2:=qp x (by simp);omega
def o9 (b:Box):Int:=(b.x.hi - b.x.lo+1)*(b.y.hi - b.y.lo+1)
def jM (l:List Box) (n:Int):List Nat->Int
 | []=>n
 | i::rest=>jM l (min (n*o9 l[i]!) 65537) rest
theorem QS {b:Box} (h:jq b):1<=o9 b:=by
 have h1:1<=b.x.hi - b.x.lo+1:=by have:=h.1;omega
 have h2:1<=b.y.hi - b.y.lo+1:=by have:=h.2;omega
 have:=Int.mul_le_mul h1 h2 (by omega) (by omega);unfold o9;omega
end Go.Proofs.YtmmhnfghklppiaaGreat.Vm
