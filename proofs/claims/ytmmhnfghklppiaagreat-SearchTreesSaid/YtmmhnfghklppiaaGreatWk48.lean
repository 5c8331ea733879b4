/- A run in which some calls on data are looked up in a table of calls that are known: it is the run itself. -/
import Derived.Test.YtmmhnfghklppiaaGreatWk7
namespace Go.Proofs.YtmmhnfghklppiaaGreat.Vm
open Go
set_option linter.unusedVariables false
set_option linter.unusedSimpArgs false
def JI {α:Type} (s:α->α->Bool):List α->List α->Bool
 | [],[]=>true
 | a::l,b::m=>s a b&&JI s l m
 | _,_=>false
theorem Rq {α:Type} {s:α->α->Bool} (hs:∀ a b,s a b=true->a=b):∀ {l m:List α},JI s l m=true->l=m
 | [],[],_=>rfl
 | [],_::_,h=>by simp [JI] at h
 | _::_,[],h=>by simp [JI] at h
 | a::l,b::m,h=>by
  simp only [JI,Bool.and_eq_true] at h;rw [hs _ _ h.1,Rq hs h.2]
def PV.same:Nat->PV->PV->Bool
 | 0,_,_=>false
 | n+1,p,q=>match p with
  | .int k a=>match q with
   | .int k' b=>decide (k=k')&&a == b
   | _=>false
  | .bool a=>match q with
   | .bool b=>a == b
   | _=>false
  | .agg cs=>match q with
   | .agg ds=>JI (PV.same n) cs ds
   | _=>false
  | .nils=>match q with
   | .nils=>true
   | _=>false
  | .slice h s es=>match q with
   | .slice h' s' es'=>h == h'&&s == s'&&JI (JI (PV.same n)) es es'
   | _=>false
  | .func f cs=>match q with
   | .func f' cs'=>f == f'&&JI (PV.same n) cs cs'
   | _=>false
  | _=>false
theorem zo6:∀ (n:Nat) (p q:PV),p.same n q=true->p=q
 | 0,_,_,h=>by simp [PV.same] at h
 | n+1,p,q,h=>by
  have ih:=zo6 n;unfold PV.same at h
  split at h<;>first|(simp at h;done)|(split at h<;>first|(simp at h;done)|rfl|skip)
  .simp at h;rw [h.1,h.2]
  .simp at h;rw [h]
  .rw [Rq ih h]
  .simp only [Bool.and_eq_true,beq_iff_eq] at h;rw [h.1.1,h.1.2,Rq (fun _ _=>Rq ih) h.2]
  .simp only [Bool.and_eq_true,beq_iff_eq] at h;rw [h.1,Rq ih h.2]
abbrev BO:=List (Nat×List PV×PV)
def BO.find (t:BO) (f:Nat) (ps:List PV):Option PV:=match t with
 | []=>none
 | (g,qs,r)::t=>if g == f&&JI (PV.same 12) qs ps then some r else BO.find t f ps
theorem BO.Bo:∀ {t:BO} {f:Nat} {ps:List PV} {r:PV},t.find f ps=some r->(f,ps,r)∈t
 | [],f,ps,r,h=>by simp [BO.find] at h
 | (g,qs,s)::t,f,ps,r,h=>by
  simp only [BO.find] at h
  split at h
  .rename_i hc;simp only [Bool.and_eq_true,beq_iff_eq] at hc;simp only [Option.some.injEq] at h;rw [<- hc.1,<- Rq (zo6 12) hc.2,<- h];exact List.mem_cons_self ..
  .exact List.mem_cons_of_mem _ (BO.Bo h)
def FZ (cl:Callee) (fs:List Nat) (t:BO):Callee:={ cl with pure:=fun f ps=>if fs.contains f then t.find f ps else cl.pure f ps }
section
variable {cl:Callee} {fs:List Nat} {t:BO} (ht:∀ e∈t,cl.pure e.1 e.2.1=some e.2.2)
include ht
theorem zqN {f:Nat} {ps:List PV} {r:PV} (h:(FZ cl fs t).pure f ps=some r):cl.pure f ps=some r:=by
 simp only [FZ] at h
 split at h
 .exact ht _ (BO.Bo h)
 .exact h
theorem zmI {H:Heap} {f:AV} {xs:List AV} {e:Eff} (h:zH (FZ cl fs t) H f xs=some e):zH cl H f xs=some e:=by
 unfold zH at h ⊢;have go:∀ (g:Nat) (ys:List AV),(if (FZ cl fs t).shared g then
    match (FZ cl fs t).run g ys H with
    | some (v,H')=>some (.upd v H')
    | none=>none
   else
    match zS (freeze H true qw) ys with
    | none=>none
    | some (ps,ids) =>
     match (FZ cl fs t).pure g ps with
     | none=>none
     | some r=>if ids.isEmpty||r.cold then some (.val (.pure r)) else some (.upd (.pure r) (H.freeze ids)):Option Eff)=some e ->
    (if cl.shared g then
    match cl.run g ys H with
    | some (v,H')=>some (.upd v H')
    | none=>none
   else
    match zS (freeze H true qw) ys with
    | none=>none
    | some (ps,ids) =>
     match cl.pure g ps with
     | none=>none
     | some r=>if ids.isEmpty||r.cold then some (.val (.pure r)) else some (.upd (.pure r) (H.freeze ids)):Option Eff)=some e:=by
  intro g ys h;have e1:(FZ cl fs t).shared g=cl.shared g:=rfl;have e2:(FZ cl fs t).run g ys H=cl.run g ys H:=rfl;rw [e1,e2] at h
  split at h
  .rename_i hs;rw [if_pos hs];exact h
  .rename_i hs;rw [if_neg hs]
   split at h
   .simp at h
   .rename_i ps ids hf
    split at h
    .simp at h
    .rename_i r hr;simp only [zqN ht hr];exact h
 split at h
 .exact go _ _ h
 .exact go _ _ h
 .exact go _ _ h
 .exact h
 .simp at h
theorem zqP {env:Env} {H:Heap} {op:mI} {e:Eff} (h:step (FZ cl fs t) env H op=some e):step cl env H op=some e:=by
 cases op<;>first|exact h|skip
 case call f xs=>exact zmI ht h
 case jG f xs ls =>
  simp only [step] at h ⊢
  split at h
  .rename_i v H2 hd;rw [zmI ht hd];exact h
  .simp at h
theorem zkO:∀ {pre:Nat} {ops:List af} {env:Env} {H:Heap} {r:Env×Heap},l6 (FZ cl fs t) pre ops env H=some r->l6 cl pre ops env H=some r
 | _,[],_,_,_,h=>h
 | pre,o::os,env,H,r,h=>by
  simp only [l6] at h ⊢
  split at h
  .simp at h
  .exact zkO h
  .split at h
   .simp at h
   .rename_i e he;rw [zqP ht he];simp only
    split at h
    .simp at h
    .rename_i hc;rw [if_neg hc];exact zkO h
omit ht in
theorem zlx {f g:Env->Heap->Out} (hf:∀ env H r,f env H=some r->g env H=some r):∀ (m:Nat) {env:Env} {H:Heap} {r},iter f m env H=some r->iter g m env H=some r
 | 0,_,_,_,h=>by simp [iter] at h
 | m+1,env,H,r,h=>by
  simp only [iter] at h ⊢
  split at h
  .rename_i env' H' h1;rw [hf _ _ _ h1];exact zlx hf m h
  .rename_i hn;have h2:=hf _ _ _ h;obtain ⟨x,e1,h1⟩:=r;rw [h2]
   cases x with
   | normal=>exact absurd h (hn _ _)
   | _=>rfl
theorem Lr:∀ {c:aV} {env:Env} {H:Heap} {r},exec (FZ cl fs t) c env H=some r->exec cl c env H=some r
 | .skip,_,_,_,h=>h
 | .region pre ops,env,H,r,h=>by
  simp only [exec] at h ⊢
  split at h
  .rename_i e' h' hr;rw [zkO ht hr];exact h
  .simp at h
 | .seq a b,env,H,r,h=>by
  simp only [exec] at h ⊢
  split at h
  .rename_i env' H' h1;rw [Lr h1];exact Lr h
  .rename_i hn;have h2:=Lr h;obtain ⟨x,e1,h1⟩:=r;rw [h2]
   cases x with
   | normal=>exact absurd h (hn _ _)
   | _=>rfl
 | .cond c a b,env,H,r,h=>by
  simp only [exec] at h ⊢
  split at h
  .split at h
   .rename_i hc;rw [if_pos hc];exact Lr h
   .rename_i hc;rw [if_neg hc];exact Lr h
  .simp at h
 | .block id c,env,H,r,h=>by
  simp only [exec] at h ⊢
  split at h
  .rename_i i env' H' h1;rw [Lr h1];exact h
  .rename_i hn;have h2:=Lr h;obtain ⟨x,e1,h1⟩:=r;rw [h2]
   cases x with
   | exit i=>exact absurd h (hn _ _ _)
   | _=>rfl
 | .loop c,env,H,r,h=>by
  simp only [exec] at h ⊢;exact zlx (fun _ _ _ h=>Lr h) _ h
 | .exit _,_,_,_,h=>h
 | .ret,_,_,_,h=>h
 | .rangeFunc _ _ _ _,_,_,_,h=>h
end
def zoP (G:Prog) (n:Nat) (fs:List Nat) (t:BO) (f:Nat) (ps:List PV):Option PV:=match G.func f with
 | none=>none
 | some fn=>if (ps.map AV.pure).length=fn.wQ then
   match exec (FZ (zu G n) fs t) fn.body (zb (ps.map .pure)) Heap.empty with
   | some (.normal,env,H')|some (.ret,env,H')=>match Vm.results env H' fn.results with
    | some v=>(freeze H' false qw v).map (·.1)
    | none=>none
   | _=>none
  else none
theorem zg5 {G:Prog} {n:Nat} {fs:List Nat} {t:BO} {f:Nat} {ps:List PV} {r:PV} (hx:G.ext f=none) (hr:G.lC f (ps.map .pure) Heap.empty=none) (ht:∀ e∈t,zK G n e.1 e.2.1=some e.2.2) (h:zoP G n fs t f ps=some r):zK G (n+1) f ps=some r:=by
 unfold zK;rw [hx];simp only;rw [ZF,hr];unfold zoP at h
 split at h
 .simp at h
 .rename_i fn Wv;rw [Wv];simp only
  split at h
  .rename_i hl;rw [if_pos hl];have key:∀ {o},exec (FZ (zu G n) fs t) fn.body (zb (ps.map .pure)) Heap.empty=some o->exec (zu G n) fn.body (zb (ps.map .pure)) Heap.empty=some o:=fun ho=>Lr (cl:=zu G n) ht ho
   split at h
   .rename_i env H' he;rw [key he];simp only
    split at h
    .rename_i v hv;rw [hv];exact h
    .simp at h
   .rename_i env H' he;rw [key he];simp only
    split at h
    .rename_i v hv;rw [hv];exact h
    .simp at h
   .simp at h
  .simp at h
end Go.Proofs.YtmmhnfghklppiaaGreat.Vm
