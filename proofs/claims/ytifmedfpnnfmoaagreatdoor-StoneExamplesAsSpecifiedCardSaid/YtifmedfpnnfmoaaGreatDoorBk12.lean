/- The library's strings.ReplaceAll, as the machine of values runs it, by its contract. -/
import Derived.Test.YtifmedfpnnfmoaaGreatDoorBk7
import Derived.Lib.ReplaceLaws
import Derived.CallsIn
namespace Go.Proofs.YtifmedfpnnfmoaaGreatDoor.Vm
open Go Go.RowKit
set_option linter.unusedVariables false
set_option linter.unusedSimpArgs false
def zie (s o n:ByteArray):Prop:=s.size < 4294967281/\1<=o.size/\s.size+Go.Lib.countB s o*n.size<=140737488355328
instance (s o n:ByteArray):Decidable (zie s o n):=by unfold zie;infer_instance
def zer (args:List AV) (H:Heap):Option (AV×Heap) :=
 match args with
 | [.pure (.str s),.pure (.str o),.pure (.str n)]=>if zie s o n then some (.pure (.str ⟨(Go.Lib.replaceAll s.data.toList o.data.toList n.data.toList).toArray⟩),H) else none
 | _=>none
theorem zjx {C:Comp} {P:Program} {f g:Nat} (hf:FnOk P f) (hg:g∈globL)
  (hc:∀ (s old new:ByteArray) (m:Int) (w:World),s.size < 4294967281->w.cell? ⟨g,0,none⟩=some (.int .i64 m)->1<=old.size->s.size+Go.Lib.countB s old*new.size<=140737488355328 ->
   Calls P f #[.string s,.string old,.string new] w fun e w'=>e=.returned (.string ⟨(Go.Lib.replaceAll s.data.toList old.data.toList new.data.toList).toArray⟩)/\Below w.heap.size w w')
  {args:List AV} {H H':Heap} {r:AV} (h:zer args H=some (r,H')):zho C P f args H r H':=by
 refine ⟨hf,fun k S base φ w vals hH hv=>?_⟩
 unfold zer at h
 split at h
 ·rename_i s o n
  split at h
  ·rename_i hcond;simp only [Option.some.injEq,Prod.mk.injEq] at h;obtain ⟨rfl,rfl⟩:=h;obtain ⟨v1,vs1,rfl,h1,r1⟩:=hv.cons_inv;obtain ⟨v2,vs2,rfl,h2,r2⟩:=r1.cons_inv;obtain ⟨v3,vs3,rfl,h3,r3⟩:=r2.cons_inv;have:=r3.nil_inv;subst this;rw [h1.str_inv,h2.str_inv,h3.str_inv];obtain ⟨m,hm⟩:=(hH.glob g hg).2
   refine (callsIn_wide.2 (hc s o n m w hcond.1 hm hcond.2.1 hcond.2.2)).mono ?_
   rintro e' w' ⟨rfl,hb⟩;exact ⟨_,φ,rfl,Evo.of_below hb,hH.below hb,.pure _ _ (.str _)⟩
  ·simp at h
 ·simp at h
def dotC (b:UInt8):UInt8:=if b=46 then 65 else b
def dotA (l:List UInt8):List UInt8:=l.map dotC
theorem zkI {l:List UInt8} (h:(46:UInt8) ∉ l):dotA l=l:=by
 unfold dotA
 conv=>rhs;rw [<- List.map_id l]
 refine List.map_congr_left fun b hb=>?_
 have hne:b≠46:=fun e=>by rw [e] at hb;exact h hb
 simp [dotC,hne]
theorem zkp:∀ s:List UInt8,(Go.Lib.index s [46]=-1/\(46:UInt8) ∉ s)\/∃ i:Nat,Go.Lib.index s [46]=i/\i < s.length/\(46:UInt8) ∉ s.take i/\s.drop i=46::s.drop (i+1)
 | []=>.inl ⟨rfl,by simp⟩
 | b::l=>by
  by_cases hb:b=46
  ·subst hb;exact .inr ⟨0,by unfold Go.Lib.index;simp,by simp,by simp,by simp⟩
  ·have h0:¬ (List.isPrefixOf [46] (b::l))=true:=by
    simp only [List.isPrefixOf,Bool.and_true,beq_iff_eq];exact fun e=>hb e.symm
   rcases zkp l with ⟨h1,h2⟩|⟨i,h1,h2,h3,h4⟩
   ·refine .inl ⟨?_,by simp only [List.mem_cons,not_or];exact ⟨fun e=>hb e.symm,h2⟩⟩
    unfold Go.Lib.index;rw [if_neg h0,h1];rfl
   ·refine .inr ⟨i+1,?_,by simpa using h2,?_,by simpa using h4⟩
    ·unfold Go.Lib.index;rw [if_neg h0,h1];have:((i:Int) == -1)=false:=by rw [beq_eq_false_iff_ne];omega
     simp [this]
    ·simp only [List.take_succ_cons,List.mem_cons,not_or];exact ⟨fun e=>hb e.symm,h3⟩
theorem zih:∀ (fuel:Nat) (s:List UInt8),s.length < fuel->Go.Lib.replaceK [46] [65] (Go.Lib.countFrom [46] fuel s) s=dotA s
 | 0,s,h=>by omega
 | fuel+1,s,h=>by
  unfold Go.Lib.countFrom;rcases zkp s with ⟨h1,h2⟩|⟨i,h1,h2,h3,h4⟩
  ·rw [h1,if_pos (by decide),Go.Lib.replaceK,zkI h2]
  ·have hne:¬ (Go.Lib.index s [46] == -1)=true:=fun e=>by have:=beq_iff_eq.1 e;omega
   rw [if_neg hne,Nat.add_comm 1,Go.Lib.replaceK_hit _ _ _ _ i h1,h1];have e1:((i:Int).toNat+([46]:List UInt8).length)=i+1:=by simp
   have e2:i+([46]:List UInt8).length=i+1:=by simp
   rw [e1,e2,zih fuel (s.drop (i+1)) (by simp;omega)]
   conv=>rhs;rw [<- List.take_append_drop i s,h4]
   unfold dotA;rw [List.map_append,List.map_cons];have:List.map dotC (s.take i)=s.take i:=zkI h3;rw [this];simp [dotC]
theorem zfA (s:List UInt8):Go.Lib.replaceAll s [46] [65]=dotA s:=by
 unfold Go.Lib.replaceAll Go.Lib.replace;rw [if_neg (by decide)];unfold Go.Lib.replaceNum;rw [if_pos (.inl (by decide))];exact zih _ _ (Nat.lt_succ_self _)
end Go.Proofs.YtifmedfpnnfmoaaGreatDoor.Vm
