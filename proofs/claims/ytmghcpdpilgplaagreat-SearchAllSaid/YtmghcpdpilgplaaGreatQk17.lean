/- Boxes of one's own: of, Clone, strip. -/
import Derived.Test.YtmghcpdpilgplaaGreatQk15
namespace Go.Proofs.YtmghcpdpilgplaaGreat.Vm
open Go
set_option linter.unusedSimpArgs false
set_option linter.unusedVariables false
set_option maxHeartbeats 4000000
def nilV (v:AV):Option Eff:=match isNil .pointer v,isNil .func v with
  | some false,_|_,some false=>some (.val v)
  | _,_=>none
@[simp] theorem st_nilCheck {cl:Callee} {env:Env} {H:Heap} (x:Opnd):step cl env H (.nilCheck x)=nilV (x.eval env):=by
 simp only [step,nilV];rfl
@[simp] theorem nilV_box (id off:Nat):nilV (.box id off)=some (.val (.box id off)):=rfl
@[simp] theorem nilV_ptr (h:Bool) (cs:List PV) (off:Nat):nilV (.pure (.ptr h cs off))=some (.val (.pure (.ptr h cs off))):=rfl
theorem sh_of:G.shared 114=true:=by decide
theorem of_eq (n:Nat) (H:Heap) (id off:Nat) (a:Int):doCall (calleeOf G (n+1)) H (.pure (.func 114 [])) [.box id off,.pure (.int .i64 a)]=some (.upd (.box id (off+if a=0 then 0 else 2)) H):=by
 have h:∃ v H',Vm.call G (n+1) (.fn 114) [.box id off,.pure (.int .i64 a)] H=some (v,H')∧(v=.box id (off+if a=0 then 0 else 2)∧H'=H):=by
  refine call_of (k:=fun v H'=>v=.box id (off+if a=0 then 0 else 2)∧H'=H) rfl g114 rfl ?_
  by_cases ha:a=0
  ·(repeat' first|simp [*,initEnv,c114]|(apply wpIf_two<;>intro _ h<;>try simp [-Nat.le_zero_eq] at h))
  ·(repeat' first|simp [*,initEnv,c114]|(apply wpIf_two<;>intro _ h<;>try simp [-Nat.le_zero_eq] at h))
 obtain ⟨v,H',h1,rfl,rfl⟩:=h;have h2:(calleeOf G (n+1)).shared 114=true:=sh_of;have h3:(calleeOf G (n+1)).run 114 [.box id off,.pure (.int .i64 a)] H'=some (.box id (off+if a=0 then 0 else 2),H'):=h1;simp only [doCall,List.map_nil,List.append_nil,h2,if_true,h3]
theorem sh_cloneB:G.shared 86=true:=by decide
theorem wpE_cloneB {n:Nat} {H:Heap} {s:Sl Box} {k:AV→Heap→Prop} {u} (hl:s.xs.length < 1000)
  (hk:∀ v' H',OwnV Box.cells 4 H' v' s.xs→isNil .slice v'=some s.isNil→H.nx≤H'.nx→(∀ id,id < H.nx→H'.get id=H.get id)→(∀ id,Names v' id→H.nx≤id)→k v' H') :
  wpE 0 (doCall (calleeOf G (n+1)) H (.pure (.func 86 [])) [.pure (s.pv Box.cells 4)]) H k u:=by
 refine wpE_run sh_cloneB ?_
 refine clone_call (f:=Box.cells) (sz:=4) (bytes:=32) (l:=s.xs) (b:=s.isNil) (fun _=>rfl) g86 ?_ ?_ (fun h=>?_) (fun _=>rfl) (by decide) (fun _=>rfl) ?_ hk
 ·exact sliceCells_sl' (f:=Box.cells) (sz:=4) (fun _=>rfl) _
 ·simp
 ·cases s with
  | nil=>rfl
  | mk h l=>simp [Sl.isNil] at h
 ·simp only [maxCells];omega
theorem putIn_rowP {α:Type} {f:α→List PV} {sz:Nat} {l:List α} {i off size:Nat} {vs:List PV} {b:α} (hf:∀ a,(f a).length=sz) (hone:vs.all PV.one=true) (h0:size≠0) (h:i < l.length) (ho:off+size≤sz) (hl:vs.length=size)
  (hb:f b=(f l[i]).take off++vs++(f l[i]).drop (off+size)):putIn (.cells true (rowOf f l)) size (i*sz+off) (vs.map .pure)=some (.cells true (rowOf f (l.set i b))):=by
 simp only [putIn];have hle:i*sz+sz≤(rowOf f l).length:=by
  rw [rowOf_length hf,← Nat.succ_mul];exact Nat.mul_le_mul_right sz h
 rw [if_pos ⟨by rw [List.length_map,hl],h0,all_one_pures _ hone,by omega⟩,← rowOf_set hf h b,hb];obtain ⟨p,q,h1,h2⟩:=rowOf_part hf h;have hX:((f l[i]).map AV.pure).length=sz:=by rw [List.length_map,hf]
 rw [h1,← h2,List.append_assoc,List.append_assoc];have e1:(p++((f l[i]).map AV.pure++q)).take (p.length+off)=p++((f l[i]).map AV.pure).take off:=by
  rw [List.take_length_add_append,List.take_append_of_le_length (by omega)]
 have e2:(p++((f l[i]).map AV.pure++q)).drop (p.length+off+size)=((f l[i]).map AV.pure).drop (off+size)++q:=by
  rw [Nat.add_assoc,List.drop_length_add_append,List.drop_append_of_le_length (by omega)]
 have e3:(p++((f l[i]).map AV.pure++q)).take p.length=p:=by
  simp
 have e4:(p++((f l[i]).map AV.pure++q)).drop (p.length+sz)=q:=by
  rw [List.drop_length_add_append,← hX,List.drop_left]
 rw [e1,e2,e3,e4];simp [List.map_append,List.map_take,List.map_drop,List.append_assoc]
theorem putIn_xlo {l:List Box} {i:Nat} (h:i < l.length) (v:Int):putIn (.cells true (rowOf Box.cells l)) 1 (i*4) [.pure (.int .i64 v)]=some (.cells true (rowOf Box.cells (l.set i ⟨⟨v,l[i].x.hi⟩,l[i].y⟩))) :=
 putIn_rowP (off:=0) (f:=Box.cells) (sz:=4) (vs:=[.int .i64 v]) (b:=⟨⟨v,l[i].x.hi⟩,l[i].y⟩) (fun _=>rfl) rfl (by decide) h (by decide) rfl rfl
theorem putIn_xhi {l:List Box} {i:Nat} (h:i < l.length) (v:Int):putIn (.cells true (rowOf Box.cells l)) 1 (i*4+1) [.pure (.int .i64 v)]=some (.cells true (rowOf Box.cells (l.set i ⟨⟨l[i].x.lo,v⟩,l[i].y⟩))) :=
 putIn_rowP (off:=1) (f:=Box.cells) (sz:=4) (vs:=[.int .i64 v]) (b:=⟨⟨l[i].x.lo,v⟩,l[i].y⟩) (fun _=>rfl) rfl (by decide) h (by decide) rfl rfl
theorem putIn_ylo {l:List Box} {i:Nat} (h:i < l.length) (v:Int):putIn (.cells true (rowOf Box.cells l)) 1 (i*4+2) [.pure (.int .i64 v)]=some (.cells true (rowOf Box.cells (l.set i ⟨l[i].x,⟨v,l[i].y.hi⟩⟩))) :=
 putIn_rowP (off:=2) (f:=Box.cells) (sz:=4) (vs:=[.int .i64 v]) (b:=⟨l[i].x,⟨v,l[i].y.hi⟩⟩) (fun _=>rfl) rfl (by decide) h (by decide) rfl rfl
theorem putIn_yhi {l:List Box} {i:Nat} (h:i < l.length) (v:Int):putIn (.cells true (rowOf Box.cells l)) 1 (i*4+3) [.pure (.int .i64 v)]=some (.cells true (rowOf Box.cells (l.set i ⟨l[i].x,⟨l[i].y.lo,v⟩⟩))) :=
 putIn_rowP (off:=3) (f:=Box.cells) (sz:=4) (vs:=[.int .i64 v]) (b:=⟨l[i].x,⟨l[i].y.lo,v⟩⟩) (fun _=>rfl) rfl (by decide) h (by decide) rfl rfl
structure Side where
 point:Int
 axis:Int
 high:Bool
 deriving Inhabited
@[simp] def Side.cells (s:Side):List PV:=[.int .i64 s.point,.int .i64 s.axis,.bool s.high]
@[simp] theorem Side.eta (s:Side):(⟨s.point,s.axis,s.high⟩:Side)=s:=rfl
def sideK (i k:Nat):Side:=⟨i,(k / 2:Nat),decide (k % 2=1)⟩
theorem e113 (n:Nat) (l:Sl Box) (i k:Nat) (hi:i < l.xs.length) (hk:k < 4) (hl:l.xs.length < 1000):callP G (n+2) 113 [l.pv Box.cells 4,.agg (sideK i k).cells]=some ((Sl.mk false (stripL l.xs i k)).pv Box.cells 4):=by
 refine callP_of (ext_none _) rfl g113 rfl ?_
 have ho:=of_eq n;have hst:=Hide.mk (stripL_at hi k);have hk4:k=0∨k=1∨k=2∨k=3:=by omega
 have p1:=putIn_xlo hi;have p2:=putIn_xhi hi;have p3:=putIn_ylo hi;have p4:=putIn_yhi hi;have q3:=loadIn_rowF (own:=true) (f:=Box.cells) (sz:=4) (l:=l.xs) (i:=i) (size:=1) (off:=3) (fun _=>rfl) hi (by decide);have e3:i*4+2+1=i*4+3:=rfl;have hlen:∀ b,(l.xs.set i b).length=l.xs.length:=fun b=>by simp
 rcases hk4 with rfl|rfl|rfl|rfl
 ·(repeat' first|simp [*,initEnv,c113,sideK,Side.cells]|(apply wpIf_two<;>intro _ h<;>try simp [-Nat.le_zero_eq] at h))
  refine wpE_cloneB hl ?_
  intro v' H' hv hn hnx hsame hnew;obtain ⟨id,rfl,hg⟩:=hv.row (by intro e;rw [e] at hi;simp at hi);have hid:=nx_of_get hg;clear hv hn hsame hnew;have hres:=fun (H2:Heap) b (hg2:H2.get id=.cells true (rowOf Box.cells (l.xs.set i b)))=>row_res (n:=10) (f:=Box.cells) (sz:=4) (fun _=>rfl) hg2 (hlen b);have hres:=Hide.mk hres;(repeat' first|simp [*,initEnv]|(apply wpIf_two<;>intro _ h<;>try simp [-Nat.le_zero_eq] at h));rw [hst.h];exact hres.h _ _ (get_set_own hid)
 ·(repeat' first|simp [*,initEnv,c113,sideK,Side.cells]|(apply wpIf_two<;>intro _ h<;>try simp [-Nat.le_zero_eq] at h))
  refine wpE_cloneB hl ?_
  intro v' H' hv hn hnx hsame hnew;obtain ⟨id,rfl,hg⟩:=hv.row (by intro e;rw [e] at hi;simp at hi);have hid:=nx_of_get hg;clear hv hn hsame hnew;have hres:=fun (H2:Heap) b (hg2:H2.get id=.cells true (rowOf Box.cells (l.xs.set i b)))=>row_res (n:=10) (f:=Box.cells) (sz:=4) (fun _=>rfl) hg2 (hlen b);have hres:=Hide.mk hres;(repeat' first|simp [*,initEnv]|(apply wpIf_two<;>intro _ h<;>try simp [-Nat.le_zero_eq] at h));rw [hst.h];exact hres.h _ _ (get_set_own hid)
 ·(repeat' first|simp [*,initEnv,c113,sideK,Side.cells]|(apply wpIf_two<;>intro _ h<;>try simp [-Nat.le_zero_eq] at h))
  refine wpE_cloneB hl ?_
  intro v' H' hv hn hnx hsame hnew;obtain ⟨id,rfl,hg⟩:=hv.row (by intro e;rw [e] at hi;simp at hi);have hid:=nx_of_get hg;clear hv hn hsame hnew;have hres:=fun (H2:Heap) b (hg2:H2.get id=.cells true (rowOf Box.cells (l.xs.set i b)))=>row_res (n:=10) (f:=Box.cells) (sz:=4) (fun _=>rfl) hg2 (hlen b);have hres:=Hide.mk hres;(repeat' first|simp [*,initEnv]|(apply wpIf_two<;>intro _ h<;>try simp [-Nat.le_zero_eq] at h));rw [hst.h];exact hres.h _ _ (get_set_own hid)
 ·(repeat' first|simp [*,initEnv,c113,sideK,Side.cells]|(apply wpIf_two<;>intro _ h<;>try simp [-Nat.le_zero_eq] at h))
  refine wpE_cloneB hl ?_
  intro v' H' hv hn hnx hsame hnew;obtain ⟨id,rfl,hg⟩:=hv.row (by intro e;rw [e] at hi;simp at hi);have hid:=nx_of_get hg;clear hv hn hsame hnew;have hres:=fun (H2:Heap) b (hg2:H2.get id=.cells true (rowOf Box.cells (l.xs.set i b)))=>row_res (n:=10) (f:=Box.cells) (sz:=4) (fun _=>rfl) hg2 (hlen b);have hres:=Hide.mk hres;(repeat' first|simp [*,initEnv]|(apply wpIf_two<;>intro _ h<;>try simp [-Nat.le_zero_eq] at h));rw [hst.h];exact hres.h _ _ (get_set_own hid)
end Go.Proofs.YtmghcpdpilgplaaGreat.Vm
