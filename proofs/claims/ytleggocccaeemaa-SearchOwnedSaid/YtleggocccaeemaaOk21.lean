/- Slices of one's own whose things are slices of one's own: grown by append, and what becomes of them when they are returned. -/
import Derived.Test.YtleggocccaeemaaOk9
namespace Go.Proofs.Ytleggocccaeemaa.Vm
open Go
set_option linter.unusedSimpArgs false
set_option linter.unusedVariables false
set_option maxHeartbeats 1000000
section
variable {H:Heap} {v x:AV} {cs:List AV}
def RowA (H:Heap) (v:AV) (cs:List AV):Prop:=(v=.pure .nils/\cs=[])\/∃ id,v=.row id 1 0 cs.length/\cs≠[]/\H.get id=.cells true cs
theorem RowA.nil:RowA H (.pure .nils) []:=.inl ⟨rfl,rfl⟩
theorem RowA.names_lt (h:RowA H v cs) {id:Nat} (hn:Names v id):id < H.nx:=by
 rcases h with ⟨rfl,_⟩|⟨i,rfl,_,hg⟩
 ·obtain ⟨_,_,_,h⟩:=hn;simp at h
 ·obtain ⟨_,_,_,h⟩:=hn;simp at h;obtain ⟨rfl,_⟩:=h;exact zC hg
theorem RowA.keep {H':Heap} (h:RowA H v cs) (hk:∀ id,Names v id->H'.get id=H.get id):RowA H' v cs:=by
 rcases h with ⟨rfl,rfl⟩|⟨i,rfl,hne,hg⟩
 ·exact .inl ⟨rfl,rfl⟩
 ·exact .inr ⟨i,rfl,hne,by rw [hk i ⟨_,_,_,rfl⟩];exact hg⟩
theorem RowA.len (h:RowA H v cs):zdc v=some (.val (.pure (.int .i64 cs.length))):=by
 rcases h with ⟨rfl,rfl⟩|⟨i,rfl,_,_⟩<;>rfl
theorem RowA.one (h:RowA H v cs):AV.one v=true/\AV.cells v=[v]:=by
 rcases h with ⟨rfl,_⟩|⟨i,rfl,_,_⟩<;>exact ⟨rfl,rfl⟩
theorem zfR {bytes:Nat} {b:AV} {k:AV->Heap->Prop} {u} (hv:RowA H v cs) (hb:zJ H 1 b=some ([x],1)) (hx:AV.one x=true) (hcs:cs.all AV.one=true)
  (hm:cs.length+1<=zn/\(cs.length+1)*bytes<=zn)
  (hk:∀ v' H',RowA H' v' (cs++[x])->H.nx<=H'.nx->(∀ id,id < H.nx->¬ Names v id->H'.get id=H.get id)->(∀ id,Names v' id->H.nx<=id)->AV.one v'=true->AV.cells v'=[v']->k v' H'):wpE 0 (zi H 1 bytes v b) H k u:=by
 have ho:[x].all AV.one=true:=by simp [hx]
 rcases hv with ⟨rfl,rfl⟩|⟨i,rfl,hne,hg⟩
 ·have h5:zi H 1 bytes (.pure .nils) b=some (.new (.cells true [x]) fun id=>.row id 1 0 1):=by
   simp only [zi,hb,ho];have h1:1*1<=zn/\1*bytes<=zn:=by simpa using hm
   simp only [Bool.not_true,Bool.false_eq_true,if_false];rw [if_neg (by simp),if_pos h1]
  rw [h5,zei];have hr:RowA (H.alloc (.cells true [x])) (.row H.nx 1 0 1) ([]++[x]):=.inr ⟨H.nx,rfl,by simp,zaf _⟩
  refine hk _ _ hr (Nat.le_succ _) (fun id hl _=>zf hl) (fun id ⟨_,_,_,h⟩=>?_) rfl rfl
  simp at h;omega
 ·have hnot:¬ (0*1+(cs.length+1)*1<=cs.length):=by omega
  have h5:zi H 1 bytes (.row i 1 0 cs.length) b=some (.upd (.row H.nx 1 0 (cs.length+1)) ((H.set i .dead).alloc (.cells true (cs++[x])))):=by
   simp only [zi,hb,ho,hg];simp only [Bool.not_true,Bool.false_eq_true,if_false,if_true];rw [if_neg hnot];simp only [true_and];rw [if_pos ⟨by omega,by simpa using hm.1,hm.2⟩]
  rw [h5,zeZ];have hr:RowA ((H.set i .dead).alloc (.cells true (cs++[x]))) (.row H.nx 1 0 (cs.length+1)) (cs++[x]):=.inr ⟨H.nx,by simp,by simp,zaf (H:=H.set i .dead) _⟩
  refine hk _ _ hr (Nat.le_succ _) (fun id hl hn=>?_) (fun id ⟨_,_,_,h⟩=>?_) rfl rfl
  ·rw [zf (by exact hl),zg];intro e;subst e;exact hn ⟨_,_,_,rfl⟩
  ·simp at h;omega
theorem zgU {α:Type}:∀ l:List α,chunks 1 l.length l=l.map fun a=>[a]
 | []=>rfl
 | a::l=>by
  simp only [List.length_cons,chunks,List.map_cons];rw [show (a::l).take 1=[a] from rfl,show (a::l).drop 1=l from rfl,zgU l]
theorem zd4 {fr:AV->Option (PV×List Nat)}:∀ {cs:List AV} {ps:List PV} {is:List Nat},zK fr cs=some (ps,is)->ps.length=cs.length
 | [],ps,is,h=>by simp [zK] at h;rw [h.1];rfl
 | c::cs,ps,is,h=>by
  simp only [zK] at h
  split at h
  ·simp at h
  ·split at h
   ·simp at h
   ·rename_i hq;simp only [Option.some.injEq,Prod.mk.injEq] at h;rw [<- h.1,List.length_cons,List.length_cons,zd4 hq]
theorem RowA.frz {kk:Bool} {n:Nat} {ps:List PV} (h:RowA H v cs) (hp:FrzL H kk n cs ps):FrzK H kk (n+1) v (if cs.isEmpty=true then .nils else .slice kk 1 (ps.map fun p=>[p])):=by
 rcases h with ⟨rfl,rfl⟩|⟨i,rfl,hne,hg⟩
 ·exact .pure _
 ·obtain ⟨is,hf⟩:=hp;have hl:=zd4 hf;have he:cs.isEmpty=false:=by cases cs<;>simp at hne ⊢
  refine ⟨i::is,?_⟩
  rw [he,if_neg (by simp)];unfold freeze;have hd:(cs.drop (0*1)).take (cs.length*1)=cs:=by simp
  simp only [hg,hd,hf];rw [if_pos (by rw [hl];omega),<- hl,zgU]
end
end Go.Proofs.Ytleggocccaeemaa.Vm
