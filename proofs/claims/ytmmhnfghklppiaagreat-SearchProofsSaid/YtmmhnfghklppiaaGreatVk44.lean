/- A run in which some calls on data are looked up in a table of calls that are known: it is the run itself. -/
import Derived.Test.YtmmhnfghklppiaaGreatVk7
namespace Go.Proofs.YtmmhnfghklppiaaGreat.Vm
open Go
set_option linter.unusedVariables false
set_option linter.unusedSimpArgs false
def GR {α:Type} (s:α->α->Bool):List α->List α->Bool
 | [],[]=>true
 | a::l,b::m=>s a b&&GR s l m
 | _,_=>false
theorem O0 {α:Type} {s:α->α->Bool} (hs:∀ a b,s a b=true->a=b):∀ {l m:List α},GR s l m=true->l=m
 | [],[],_=>rfl
 | [],_::_,h=>by simp [GR] at h
 | _::_,[],h=>by simp [GR] at h
 | a::l,b::m,h=>by
  simp only [GR,Bool.and_eq_true] at h;rw [hs _ _ h.1,O0 hs h.2]
def PV.same:Nat->PV->PV->Bool
 | 0,_,_=>false
 | n+1,p,q=>match p with
  | .int k a=>match q with
   | .int k' b=>decide (k=k')&&a == b
   | _=>false
  | .bool a=>match q with
   | .bool b=>a == b
   | _=>false
  | .agg cs=>match q with
   | .agg ds=>GR (PV.same n) cs ds
   | _=>false
  | .nils=>match q with
   | .nils=>true
   | _=>false
  | .slice h s es=>match q with
   | .slice h' s' es'=>h == h'&&s == s'&&GR (GR (PV.same n)) es es'
   | _=>false
  | .func f cs=>match q with
   | .func f' cs'=>f == f'&&GR (PV.same n) cs cs'
   | _=>false
  | _=>false
theorem zod:∀ (n:Nat) (p q:PV),p.same n q=true->p=q
 | 0,_,_,h=>by simp [PV.same] at h
 | n+1,p,q,h=>by
  have ih:=zod n;unfold PV.same at h
  split at h<;>first|(simp at h;done)|(split at h<;>first|(simp at h;done)|rfl|skip)
  .simp at h;rw [h.1,h.2]
  .simp at h;rw [h]
  .rw [O0 ih h]
  .simp only [Bool.and_eq_true,beq_iff_eq] at h;rw [h.1.1,h.1.2,O0 (fun _ _=>O0 ih) h.2]
  .simp only [Bool.and_eq_true,beq_iff_eq] at h;rw [h.1,O0 ih h.2]
abbrev yo:=List (Nat×List PV×PV)
def yo.find (t:yo) (f:Nat) (ps:List PV):Option PV:=match t with
 | []=>none
 | (g,qs,r)::t=>if g == f&&GR (PV.same 12) qs ps then some r else yo.find t f ps
theorem yo.xO:∀ {t:yo} {f:Nat} {ps:List PV} {r:PV},t.find f ps=some r->(f,ps,r)∈t
 | [],f,ps,r,h=>by simp [yo.find] at h
 | (g,qs,s)::t,f,ps,r,h=>by
  simp only [yo.find] at h
  split at h
  .rename_i hc;simp only [Bool.and_eq_true,beq_iff_eq] at hc;simp only [Option.some.injEq] at h;rw [<- hc.1,<- O0 (zod 12) hc.2,<- h];exact List.mem_cons_self ..
  .exact List.mem_cons_of_mem _ (yo.xO h)
def Dy (cl:Callee) (fs:List Nat) (t:yo):Callee:={ cl with pure:=fun f ps=>if fs.contains f then t.find f ps else cl.pure f ps }
section
variable {cl:Callee} {fs:List Nat} {t:yo} (ht:∀ e∈t,cl.pure e.1 e.2.1=some e.2.2)
include ht
theorem zq2 {f:Nat} {ps:List PV} {r:PV} (h:(Dy cl fs t).pure f ps=some r):cl.pure f ps=some r:=by
 simp only [Dy] at h
 split at h
 .exact ht _ (yo.xO h)
 .exact h
theorem zld {H:Heap} {f:AV} {xs:List AV} {e:Eff} (h:zD (Dy cl fs t) H f xs=some e):zD cl H f xs=some e:=by
 unfold zD at h ⊢;have go:∀ (g:Nat) (ys:List AV),(if (Dy cl fs t).shared g then
    match (Dy cl fs t).run g ys H with
    | some (v,H')=>some (.upd v H')
    | none=>none
   else
    match zO (freeze H true nZ) ys with
    | none=>none
    | some (ps,ids) =>
     match (Dy cl fs t).pure g ps with
     | none=>none
     | some r=>if ids.isEmpty||r.cold then some (.val (.pure r)) else some (.upd (.pure r) (H.freeze ids)):Option Eff)=some e ->
    (if cl.shared g then
    match cl.run g ys H with
    | some (v,H')=>some (.upd v H')
    | none=>none
   else
    match zO (freeze H true nZ) ys with
    | none=>none
    | some (ps,ids) =>
     match cl.pure g ps with
     | none=>none
     | some r=>if ids.isEmpty||r.cold then some (.val (.pure r)) else some (.upd (.pure r) (H.freeze ids)):Option Eff)=some e:=by
  intro g ys h;have e1:(Dy cl fs t).shared g=cl.shared g:=rfl;have e2:(Dy cl fs t).run g ys H=cl.run g ys H:=rfl;rw [e1,e2] at h
  split at h
  .rename_i hs;rw [if_pos hs];exact h
  .rename_i hs;rw [if_neg hs]
   split at h
   .simp at h
   .rename_i ps ids hf
    split at h
    .simp at h
    .rename_i r hr;simp only [zq2 ht hr];exact h
 split at h
 .exact go _ _ h
 .exact go _ _ h
 .exact go _ _ h
 .exact h
 .simp at h
theorem zrs {env:Env} {H:Heap} {op:jZ} {e:Eff} (h:step (Dy cl fs t) env H op=some e):step cl env H op=some e:=by
 cases op<;>first|exact h|skip
 case call f xs=>exact zld ht h
 case iR f xs ls =>
  simp only [step] at h ⊢
  split at h
  .rename_i v H2 hd;rw [zld ht hd];exact h
  .simp at h
theorem zkn:∀ {pre:Nat} {ops:List ae} {env:Env} {H:Heap} {r:Env×Heap},zY (Dy cl fs t) pre ops env H=some r->zY cl pre ops env H=some r
 | _,[],_,_,_,h=>h
 | pre,o::os,env,H,r,h=>by
  simp only [zY] at h ⊢
  split at h
  .simp at h
  .exact zkn h
  .split at h
   .simp at h
   .rename_i e he;rw [zrs ht he];simp only
    split at h
    .simp at h
    .rename_i hc;rw [if_neg hc];exact zkn h
omit ht in
theorem zk7 {f g:Env->Heap->Out} (hf:∀ env H r,f env H=some r->g env H=some r):∀ (m:Nat) {env:Env} {H:Heap} {r},iter f m env H=some r->iter g m env H=some r
 | 0,_,_,_,h=>by simp [iter] at h
 | m+1,env,H,r,h=>by
  simp only [iter] at h ⊢
  split at h
  .rename_i env' H' h1;rw [hf _ _ _ h1];exact zk7 hf m h
  .rename_i hn;have h2:=hf _ _ _ h;obtain ⟨x,e1,h1⟩:=r;rw [h2]
   cases x with
   | normal=>exact absurd h (hn _ _)
   | _=>rfl
theorem Jj:∀ {c:aP} {env:Env} {H:Heap} {r},exec (Dy cl fs t) c env H=some r->exec cl c env H=some r
 | .skip,_,_,_,h=>h
 | .region pre ops,env,H,r,h=>by
  simp only [exec] at h ⊢
  split at h
  .rename_i e' h' hr;rw [zkn ht hr];exact h
  .simp at h
 | .seq a b,env,H,r,h=>by
  simp only [exec] at h ⊢
  split at h
  .rename_i env' H' h1;rw [Jj h1];exact Jj h
  .rename_i hn;have h2:=Jj h;obtain ⟨x,e1,h1⟩:=r;rw [h2]
   cases x with
   | normal=>exact absurd h (hn _ _)
   | _=>rfl
 | .cond c a b,env,H,r,h=>by
  simp only [exec] at h ⊢
  split at h
  .split at h
   .rename_i hc;rw [if_pos hc];exact Jj h
   .rename_i hc;rw [if_neg hc];exact Jj h
  .simp at h
 | .block id c,env,H,r,h=>by
  simp only [exec] at h ⊢
  split at h
  .rename_i i env' H' h1;rw [Jj h1];exact h
  .rename_i hn;have h2:=Jj h;obtain ⟨x,e1,h1⟩:=r;rw [h2]
   cases x with
   | exit i=>exact absurd h (hn _ _ _)
   | _=>rfl
 | .loop c,env,H,r,h=>by
  simp only [exec] at h ⊢;exact zk7 (fun _ _ _ h=>Jj h) _ h
 | .exit _,_,_,_,h=>h
 | .ret,_,_,_,h=>h
 | .rangeFunc _ _ _ _,_,_,_,h=>h
end
def zor (G:Prog) (n:Nat) (fs:List Nat) (t:yo) (f:Nat) (ps:List PV):Option PV:=match G.func f with
 | none=>none
 | some fn=>if (ps.map AV.pure).length=fn.uh then
   match exec (Dy (zn G n) fs t) fn.body (za (ps.map .pure)) Heap.empty with
   | some (.normal,env,H')|some (.ret,env,H')=>match Vm.results env H' fn.results with
    | some v=>(freeze H' false nZ v).map (·.1)
    | none=>none
   | _=>none
  else none
theorem zgu {G:Prog} {n:Nat} {fs:List Nat} {t:yo} {f:Nat} {ps:List PV} {r:PV} (hx:G.ext f=none) (hr:G.jy f (ps.map .pure) Heap.empty=none) (ht:∀ e∈t,zF G n e.1 e.2.1=some e.2.2) (h:zor G n fs t f ps=some r):zF G (n+1) f ps=some r:=by
 unfold zF;rw [hx];simp only;rw [XD,hr];unfold zor at h
 split at h
 .simp at h
 .rename_i fn Ug;rw [Ug];simp only
  split at h
  .rename_i hl;rw [if_pos hl];have key:∀ {o},exec (Dy (zn G n) fs t) fn.body (za (ps.map .pure)) Heap.empty=some o->exec (zn G n) fn.body (za (ps.map .pure)) Heap.empty=some o:=fun ho=>Jj (cl:=zn G n) ht ho
   split at h
   .rename_i env H' he;rw [key he];simp only
    split at h
    .rename_i v hv;rw [hv];exact h
    .simp at h
   .rename_i env H' he;rw [key he];simp only
    split at h
    .rename_i v hv;rw [hv];exact h
    .simp at h
   .simp at h
  .simp at h
end Go.Proofs.YtmmhnfghklppiaaGreat.Vm
