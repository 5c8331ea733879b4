/- The library's sort of numbers, as the machine of values runs it, by its contract. -/
import Derived.Test.YtifmedfpnnfmoaaGreatDoorBk7
import Derived.Sort.Grow
import Derived.Sort.Row
import Derived.CallsIn
set_option linter.unusedSimpArgs false
namespace Go.Proofs.YtifmedfpnnfmoaaGreatDoor.Vm
open Go Go.RowKit
set_option linter.unusedVariables false
def ins (a:Int):List Int->List Int
 | []=>[a]
 | b::l=>if a<=b then a::b::l else b::ins a l
def zaM:List Int->List Int
 | []=>[]
 | a::l=>ins a (zaM l)
theorem zfW (a:Int):∀ l:List Int,(ins a l).Perm (a::l)
 | []=>List.Perm.refl _
 | b::l=>by
  unfold ins
  split
  ·exact List.Perm.refl _
  ·exact ((zfW a l).cons b).trans (List.Perm.swap a b l)
theorem zdn:∀ l:List Int,(zaM l).Perm l
 | []=>List.Perm.refl _
 | a::l=>(zfW a (zaM l)).trans ((zdn l).cons a)
theorem zf9 (a:Int):∀ {l:List Int},l.Pairwise (·<=·)->(ins a l).Pairwise (·<=·)
 | [],_=>by simp [ins]
 | b::l,h=>by
  have h1:=List.pairwise_cons.1 h;unfold ins
  split
  ·rename_i hab
   refine List.pairwise_cons.2 ⟨fun x hx=>?_,h⟩
   rcases List.mem_cons.1 hx with rfl|hx
   ·exact hab
   ·exact Int.le_trans hab (h1.1 x hx)
  ·rename_i hab
   refine List.pairwise_cons.2 ⟨fun x hx=>?_,zf9 a h1.2⟩
   rcases List.mem_cons.1 ((zfW a l).mem_iff.1 hx) with rfl|hx
   ·omega
   ·exact h1.1 x hx
theorem zdc:∀ l:List Int,(zaM l).Pairwise (·<=·)
 | []=>List.Pairwise.nil
 | a::l=>zf9 a (zdc l)
theorem zbL (l:List Int):(zaM l).length=l.length:=(zdn l).length_eq
theorem zfl (l:List Int):(l.mergeSort fun x y=>decide (x<=y))=zaM l:=by
 have h1:(l.mergeSort fun x y=>decide (x<=y)).Pairwise (fun a b=>decide (a<=b)=true):=List.pairwise_mergeSort (fun a b c h h'=>by simp at *;omega) (fun a b=>by simp;omega) l
 refine List.Perm.eq_of_pairwise (le:=fun a b=>a<=b) (fun a b _ _ h h'=>Int.le_antisymm h h') (h1.imp fun h=>by simpa using h) (zdc l) ((List.mergeSort_perm l _).trans (zdn l).symm)
def zed:List AV->Option (List Int)
 | []=>some []
 | .pure (.int .i64 z)::l=>(zed l).map (z :: ·)
 | _=>none
theorem zg8:∀ {l:List AV} {zs:List Int},zed l=some zs->l=zs.map fun z=>.pure (.int .i64 z)
 | [],zs,h=>by simp [zed] at h;subst h;rfl
 | c::l,zs,h=>by
  unfold zed at h
  split at h
  ·rename_i h0;cases h0
  ·rename_i z l' h0;simp only [List.cons.injEq] at h0;obtain ⟨rfl,rfl⟩:=h0;rw [Option.map_eq_some_iff] at h;obtain ⟨ys,hy,rfl⟩:=h;rw [zg8 hy];rfl
  ·simp at h
def zds (args:List AV) (H:Heap):Option (AV×Heap) :=
 match args with
 | [.row id 1 off n]=>match H.get id with
  | .cells true cs=>if off+n<=cs.length/\n<=zt then match zed ((cs.drop off).take n) with
    | some zs=>some (.tup [],H.set id (.cells true (cs.take off++(zaM zs).map (fun z=>AV.pure (.int .i64 z))++cs.drop (off+n))))
    | none=>none else none
  | _=>none
 | _=>none
theorem zjq {C:Comp} {P:Program} {f:Nat} (hf:FnOk P f)
  (hc:∀ (blk off cap:Nat) (zs:List Int) (w:World),Sort.Holds (Value.int .i64) w blk off zs.toArray->blk < w.heap.size->zs.length < 4611686018427387904 ->
   Calls P f #[.slice (some ⟨blk,off,none⟩) zs.length cap] w fun e w'=>e=.returned (.tuple #[])/\∃ n os,w'=Sort.grow (Sort.putRow (Value.int .i64) (Sort.ahead w n) blk off (zs.mergeSort fun x y=>decide (x<=y)).toArray) os)
  {args:List AV} {H H':Heap} {r:AV} (h:zds args H=some (r,H')):zho C P f args H r H':=by
 refine ⟨hf,fun k S base φ w vals hH hv=>?_⟩
 unfold zds at h
 split at h
 ·rename_i id off n
  split at h
  ·rename_i cs hg
   split at h
   ·rename_i hcond
    split at h
    ·rename_i zs hz;simp only [Option.some.injEq,Prod.mk.injEq] at h;obtain ⟨rfl,rfl⟩:=h;obtain ⟨v,vs',rfl,h1,h2⟩:=hv.cons_inv;have:=h2.nil_inv;subst this;obtain ⟨b,m,cap,hid,rfl,hcap,hfull⟩:=h1.row_inv;have ho:=hH.obj _ _ _ hid;rw [hg] at ho;obtain ⟨c,e,fz,q1,q2,q3,q4,q5⟩:=ho;have hzs:=zg8 hz;have hzl:zs.length=n:=by
      have:((cs.drop off).take n).length=n:=by simp;omega
      rw [hzs] at this
      simpa using this
     have hcell:∀ j,j < zs.length->c[off+j]?=some (.int .i64 zs[j]!):=fun j hj=>by
      have ha:cs[off+j]?=some (.pure (.int .i64 zs[j]!)):=by
       have h3:((cs.drop off).take n)[j]?=some (.pure (.int .i64 zs[j]!)):=by
        rw [hzs,List.getElem?_map,List.getElem?_eq_getElem hj];simp [hj]
       rw [List.getElem?_take_of_lt (by omega),List.getElem?_drop] at h3;exact h3
      have hjs:off+j < c.size:=by omega
      have hcv:c[off+j]?=some c[off+j]:=Array.getElem?_eq_getElem hjs;have:=(q5 _ _ _ ha hcv).int_inv;rw [hcv,this]
     have hholds:Sort.Holds (Value.int .i64) w b off zs.toArray:=fun j hj=>by
      have hj':j < zs.length:=by simpa using hj
      refine ⟨?_,?_⟩
      ·simp only [World.cell?,q1];rw [hcell j hj'];simp
      ·have hjs:off+j < c.size:=by omega
       simp only [World.frozen?,q1];have:=q4 (off+j) (by omega)
       simpa using this
     have hbs:b < w.heap.size:=(hH.lt _ _ _ hid).2;have hrun:=hc b off cap zs w hholds hbs (by rw [hzl];have:=hcond.2;simp only [zt] at this;omega);rw [hzl] at hrun;rw [Nat.mul_one]
     refine (callsIn_wide.2 hrun).mono ?_
     rintro e' w' ⟨rfl,n',os,rfl⟩;rw [zfl];have hput:(Sort.putRow (Value.int .i64) (Sort.ahead w n') b off (zaM zs).toArray).heap[b]?=some (.cells (Sort.putCells (Value.int .i64) off (zaM zs).toArray c) e fz):=by
      simp [Sort.putRow,Sort.mapBlock,Sort.ahead,Array.getElem?_modify,q1,Sort.onCells]
     have hw2:=hH.write (o:=.cells true (cs.take off++(zaM zs).map (fun z=>AV.pure (.int .i64 z))++cs.drop (off+n))) (w':=Sort.putRow (Value.int .i64) (Sort.ahead w n') b off (zaM zs).toArray) hid (by rw [hg];rfl) rfl rfl rfl (by simp [Sort.ahead]) (fun c' hc'=>by
       simp [Sort.putRow,Sort.mapBlock,Sort.ahead,Array.getElem?_modify,hc'.symm]) ⟨_,e,fz,hput,by simp [Sort.putCells,q2],by
       have:=zbL zs;simp only [List.length_append,List.length_take,List.length_map,List.length_drop];omega,q4,fun j a v ha hv=>?_⟩
     ·have hgrow:Below (Sort.putRow (Value.int .i64) (Sort.ahead w n') b off (zaM zs).toArray).heap.size (Sort.putRow (Value.int .i64) (Sort.ahead w n') b off (zaM zs).toArray) (Sort.grow (Sort.putRow (Value.int .i64) (Sort.ahead w n') b off (zaM zs).toArray) os):=by
       refine ⟨rfl,rfl,rfl,by simp [Sort.grow],fun c' hc'=>?_⟩
       simp only [Sort.grow];rw [Array.getElem?_append_left hc']
      exact ⟨_,φ,rfl,hw2.1.trans (Evo.of_below hgrow),hw2.2.below hgrow,.tup [] #[] rfl fun i p v h=>by simp at h⟩
     ·-- each cell
      have hjl:=(List.getElem?_eq_some_iff.1 ha).1;have hil:=zbL zs;simp only [List.length_append,List.length_take,List.length_map,List.length_drop] at hjl;have hjs:j < c.size:=by omega
      have hcj:c[j]?=some c[j]:=Array.getElem?_eq_getElem hjs;have hsame:∀ k b',Imm S base φ H w k b'->Imm S base φ H w k b'/\(Sort.putRow (Value.int .i64) (Sort.ahead w n') b off (zaM zs).toArray).heap[b']?=w.heap[b']?:=fun k b' hb'=>⟨hb',by
       have hne:b≠b':=fun e=>hb'.2.2 ⟨id,m,by rw [<- e];exact hid,by rw [hg];rfl⟩;simp [Sort.putRow,Sort.mapBlock,Sort.ahead,Array.getElem?_modify,hne]⟩
      simp only [Sort.putCells,Array.getElem?_mapIdx,hcj,Option.map_some,Option.some.injEq] at hv
      by_cases hin:off<=j/\j < off+n
      ·rw [if_pos ⟨hin.1,by simp [hil,hzl];exact hin.2⟩] at hv;have hlo:¬ j < (cs.take off).length:=by simp;omega
       rw [List.append_assoc,List.getElem?_append_right (by simp;omega)] at ha;have e1:j - (cs.take off).length=j - off:=by simp;omega
       rw [e1,List.getElem?_append_left (by simp;omega),List.getElem?_map,List.getElem?_eq_getElem (by omega)] at ha;simp only [Option.map_some,Option.some.injEq] at ha;subst ha;subst hv;have hlt:j - off < (zaM zs).length:=by omega
       have:((zaM zs).toArray[j - off]! : Int)=(zaM zs)[j - off]:=by simp [hlt]
       rw [this];exact .pure _ _ (.int _ _)
      ·rw [if_neg (by simp [hil,hzl];omega)] at hv;subst hv;have haj:cs[j]?=some a:=by
        by_cases hlo:j < off
        ·rw [List.append_assoc,List.getElem?_append_left (by simp;omega),List.getElem?_take_of_lt hlo] at ha;exact ha
        ·rw [List.getElem?_append_right (by simp;omega)] at ha;rw [List.getElem?_drop] at ha;have e2:off+n+(j - (cs.take off++(zaM zs).map (fun z=>AV.pure (.int .i64 z))).length)=j:=by simp;omega
         rw [e2] at ha;exact ha
       exact (q5 j a c[j] haj hcj).mono hsame (fun _ _ h=>h)
    ·simp at h
   ·simp at h
  ·simp at h
 ·simp at h
end Go.Proofs.YtifmedfpnnfmoaaGreatDoor.Vm
